/- Printed by KGen. -/
import Derived.Test.YtffcelhcekillaaGreatRb
namespace Go.AM.K
open Go.Proofs
set_option maxRecDepth 100000
set_option linter.unusedVariables false
noncomputable section
def aFr:TG:=[tT 0 [0,1],tT 1 [5,6],tT 2 [5,14],tT 3 [5],tT 4 [4]]
def aED:aq:=aw Pg Tryz.f268 aFr aC
def Ub (α:Type)(b c:Int)(k1:Int->Op α):Op α:=
 ym α b c
 (fun a d=>cK (d != 0)
 (k1 (w64 (a+1)))
 (k1 a))
def DD:bz:=sld Ub
def UH (v:bz)(α:Type)(k:RT α):Int->Int->Op α:=fun a b=>v α a b (fun c=>aR k c)
theorem anr:ak Pg 268 18 ⟨br,UH DD⟩:=iP ek3 aED (ah Tryz.func268 (by kernel_rfl)) aO fun _ _=>by kernel_rfl
def aAI:TG:=[tT 0 [1],tT 1 [2]]
def aD7:aq:=aw Pg Tryz.f252 aAI aC
def X5 (α:Type)(a b:Int)(k1:Int->Op α):Op α:=
 oA α (w64 ((w64 (a*a))+(w64 (b*b))))
 (fun c=>k1 c)
def m7:bz:=sld X5
def Tb (v:bz)(α:Type)(k:RT α):Int->Int->Int->Op α:=fun a b d=>v α a b (fun c=>aR k c)
theorem auW:ak Pg 252 15 ⟨cT,Tb m7⟩:=iP ek3 aD7 (ah Tryz.func252 (by kernel_rfl)) agF fun _ _=>by kernel_rfl
def aGo:TG:=[tT 0 [0,1],tT 1 [1,6,7],tT 2 [6,7,22],tT 3 [4,5],tT 4 [4,5]]
def aDd:aq:=aw Pg Tryz.f247 aGo aC
def Qn (α:Type)(d c:Int)(k1:Int->Bool->Op α):Op α:=
 ym α d c
 (fun b a=>cK (a != 0)
 (cK (decide ((w64 (c - a))<=a))
 (k1 (w64 (b+1)) true)
 (k1 b (a != 0)))
 (k1 b (a != 0)))
def mo:qu:=sld Qn
def Tq (v:qu)(α:Type)(k:RT α):Int->Int->Op α:=fun a b=>v α a b (fun c d=>qU k c d)
theorem arG:ak Pg 247 28 ⟨br,Tq mo⟩:=iP ek3 aDd (ah Tryz.func247 (by kernel_rfl)) aO fun _ _=>by kernel_rfl
def av2:SG:=[(5,iT),(10,iT),(16,iT),(21,iS 3)]
def aGS:TG:=[tT 0 [1,2],tT 1 [1,2,19],tT 2 [2,3],tT 3 [2,3]]
def aiV:aq:=aw Pg Tryz.f248 aGS aC
def D8:PT St:=pS [sP 1,sP 2] [au 1 (xs 3),au 2 (xs 3)]
def aEq {β:Type}(g:St->β):I6 β:=D8.unc g
def ahu:PT St:=pS [sP 1,sP 2,sl 19 (aV false [(cD dB)])] [au 1 (xs 3),au 2 (xs 3)]
def aej {β:Type}(g:St->β):Bool->I6 β:=ahu.unc g
def akN:ag:=ag.sub [1,0,0] (emb aiV)
def FA (α:Type)(a b c:Int)(k1:Bool->Op α):Op α:=
 pE α a
 (fun d=>cK (!d)
 (k1 true)
 (pE α b
 (fun e=>cK (!e)
 (k1 true)
 (cL α c 0 67108864
 (fun g=>k1 (!g))))))
def wF:ch:=sld FA
def N7 (v:ch)(α:Type)(K:KT α):I6 (Op α):=fun a b c d e g=>v α a b c (fun h=>aej (K .normal) h a b c d e g)
theorem ajY:∀ (α:Type) (K:KT α),N7 wF α K=D8.unc fun σ=>az Pg Ek3 av2 akN K σ:=aZ (fun α K=>by kernel_rfl)
def Uq (α:Type)(a b c:Int)(k1:I4 (Op α)):Op α:=
 wF α a b c
 (fun d=>cK d
 (k1 0 0 0 8)
 (k1 a b c 0))
def dA:kf:=sld Uq
def VW (v:kf)(α:Type)(k:RT α):Int->Int->Int->Op α:=fun a b c=>v α a b c (fun d e g h=>bD k d e g h)
def ar3:ag:=(ag.put (.m [⟨D8,N7 wF⟩]) [1,0] (emb aiV))
theorem amv:ak Pg 248 22 ⟨cT,VW dA⟩:=iZ ek3 (ah Tryz.func248 (by kernel_rfl)) av2 ar3 ((an _ _).trans (aA _)) (aM (by kernel_rfl) (aD aiV) ⟨ajY,trivial⟩) fun _ _=>by kernel_rfl
def aI6:SG:=[(4,iS 2),(9,iS 2),(15,iT),(21,iT),(24,iT),(29,iT),(32,iT)]
def aLg:TG:=[tT 0 [1],tT 1 [1,18],tT 2 [2],tT 3 [34],tT 4 [2],tT 5 [2]]
def aLq:aq:=aw Pg Tryz.f98 aLg aC
abbrev ahJ:Type 1:=(α:Type)->Int->Int->Int->Int->Int->(Int->Op α)->Op α
def ae2 (α:Type)(a b c d e:Int)(k1:Int->Op α):Op α:=
 yG α a b 5000 80000
 (fun g=>cK (!g)
 (k1 2)
 (yG α c d 0 1000000
 (fun h=>cK (!h)
 (k1 2)
 (si α e
 (fun i=>cK (!i)
 (k1 2)
 (cK (decide (b < a))
 (k1 10)
 (cK (decide (d < c))
 (k1 10)
 (k1 0))))))))
def LC:ahJ:=sld ae2
def ajM:PT (List DV):=pA [pV true [(dI .i64),(dI .i64),(dI .i64),(dI .i64),(dI .i64)]]
def afR (v:ahJ)(α:Type)(k:RT α):I5 (Op α):=fun a b c d e=>v α a b c d e (fun g=>aR k g)
theorem awN:ak Pg 98 35 ⟨ajM,afR LC⟩:=iP ek3 aLq (ah Tryz.func98 (by kernel_rfl)) aI6 fun _ _=>by kernel_rfl
def aJS:SG:=[(4,iT),(9,iT),(14,iT),(19,iS 2),(25,iT),(28,iT),(31,iS 2),(36,iT),(39,iT),(42,iT),(47,iT),(52,iT),(54,iT)]
def aKf:TG:=[tT 0 [1],tT 1 [1,12],tT 2 [2],tT 3 [1,22],tT 4 [2],tT 5 [1,29],tT 6 [2],tT 7 [1,33],tT 8 [2],tT 9 [1,40],tT 10 [2],tT 11 [1,50],tT 12 [2],tT 13 [55],tT 14 [2],tT 15 [2]]
def aJN:aq:=aw Pg Tryz.f97 aKf aC
abbrev H2:Type 1:=(α:Type)->Int->Int->Int->Int->Int->Int->Int->Int->Int->(Int->Op α)->Op α
def amf (α:Type)(h i j a b c d e g:Int)(k1:Int->Op α):Op α:=
 Ky α h
 (fun l=>cK (!l)
 (k1 11)
 (En α i
 (fun m=>cK (!m)
 (k1 11)
 (cL α j 5000 80000
 (fun o=>cK (!o)
 (k1 2)
 (xA α a b 0 9999
 (fun p=>cK (!p)
 (k1 2)
 (cK (decide (b < a))
 (k1 10)
 (xA α c d 1000 200000
 (fun q=>cK (!q)
 (k1 2)
 (cK (decide (d < c))
 (k1 10)
 (cL α e 0 10000
 (fun r=>cK (!r)
 (k1 2)
 (cL α g 0 10000
 (fun s=>cK (!s)
 (k1 2)
 (cK (decide (g < e))
 (k1 24)
 (k1 0)))))))))))))))))
def Nq:H2:=sld amf
def agC (v:H2)(α:Type)(k:RT α):I9 (Op α):=fun a b c d e g h i j=>v α a b c d e g h i j (fun l=>aR k l)
theorem axs:ak Pg 97 56 ⟨kU,agC Nq⟩:=iP ek3 aJN (ah Tryz.func97 (by kernel_rfl)) aJS fun _ _=>by kernel_rfl
def sF:SG:=[(14,[.sl]),(19,[.sl]),(25,[.sl]),(27,iS 3),(28,iS 3),(30,iT),(35,iT),(41,iT),(46,[.sl]),(49,[.sl]),(54,[.sl]),(60,[.sl]),(62,iS 2),(63,iS 2),(69,iT),(74,[.sl]),(80,[.sl]),(82,iS 3),(83,iS 3),(85,iT),(87,iT),(91,iT),(96,iT),(102,[.sl]),(106,[.sl]),(108,iS 2),(109,iS 2),(111,iT),(115,iT),(117,iT),(119,iS 2),(121,iT)]
def aJw:TG:=[tT 0 [1],tT 1 [1,16],(2,⟨[2,3],true,[⟨false,2,0,20002,5⟩],[]⟩),tT 3 [1,4],tT 4 [1,4,21],tT 6 [1,4,5],tT 7 [1,4,44],(8,⟨[2,3],true,[⟨false,2,0,20002,5⟩],[]⟩),tT 5 [1,4],tT 9 [1,51],(10,⟨[2,3],true,[⟨false,2,0,20002,5⟩],[]⟩),tT 11 [1,6],tT 12 [1,6,56],tT 14 [1,6,7],tT 15 [1,6,7,66],(16,⟨[2,3],true,[⟨false,2,0,20002,5⟩],[]⟩),tT 13 [1,6],tT 17 [1,71],(18,⟨[2,3],true,[⟨false,2,0,20002,5⟩],[]⟩),tT 19 [1,8],tT 20 [1,8,9],tT 21 [1,8,9,76],tT 23 [1,8,9,10],tT 24 [1,8,9,10,11],tT 25 [1,8,9,10,12],tT 26 [1,8,9,10,12,104],tT 27 [1,8,9,10,12],tT 28 [1,8,9,10,12,112],(29,⟨[2,3],true,[⟨false,2,0,20002,5⟩],[]⟩),tT 30 [1,8,9],tT 22 [1,8,9],(31,⟨[2,3],true,[⟨false,2,0,20002,5⟩],[]⟩)]
def aKL:TG:=[(4,⟨[1,4],true,[⟨true,1,0,30100,3⟩,⟨true,1,1,30101,2⟩,⟨true,1,3,30103,9⟩],[]⟩),(12,⟨[1,6],true,[⟨true,1,0,30100,3⟩,⟨true,1,1,30101,2⟩,⟨true,1,3,30103,9⟩],[]⟩),(21,⟨[1,8,9],true,[⟨false,8,0,20008,5⟩,⟨true,1,0,30100,3⟩,⟨true,1,1,30101,2⟩,⟨true,1,3,30103,9⟩],[]⟩)]
def Kg:aq:=aw Pg Tryz.f33 aJw aKL
def ve:OT:=tdC (ag.sub [1,1,0,1,0] (emb Kg))
def xa:OT:=tdC (ag.sub [1,1,1,1,0,1,0] (emb Kg))
def wO:OT:=tdC (ag.sub [1,1,1,1,1,1,1,0,1,0] (emb Kg))
def IP:PT St:=pS [sP 1,sI 4] [au 1 [(cD dL),(cD dL),xI,(cD dL),xI,xI]]
def Jh {β:Type}(g:St->β):Int->ae->ae->Int->ae->Int->Int->β:=IP.unc g
def ara:PT St:=pS [sl 2 (aV false [(ej 20002)]),sI 3] [ei 20002 5]
def cU {β:Type}(g:St->β):Int->ae->β:=ara.unc g
def aov:PT St:=pS [sP 1,sI 4,sl 21 (aV false [(cD dB)])] [au 1 [(cD dL),(cD dL),xI,(cD dL),xI,xI]]
def zU {β:Type}(g:St->β):Int->Bool->ae->ae->Int->ae->Int->Int->β:=aov.unc g
def IK:PT St:=pS [sP 1,sI 6] [au 1 [(cD dL),(cD dL),xI,(cD dL),xI,xI]]
def Ib {β:Type}(g:St->β):Int->ae->ae->Int->ae->Int->Int->β:=IK.unc g
def api:PT St:=pS [sP 1,sI 6,sl 56 (aV false [(cD dB)])] [au 1 [(cD dL),(cD dL),xI,(cD dL),xI,xI]]
def A2 {β:Type}(g:St->β):Int->Bool->ae->ae->Int->ae->Int->Int->β:=api.unc g
def Aq:PT St:=pS [sP 1,sl 8 (aV false [(ej 20008)]),sI 9,sP 10,sP 12] [au 1 [(cD dL),(cD dL),xI,(cD dL),xI,xI],ei 20008 5,au 10 (xs 3),au 12 [xI,xI]]
def aqy {β:Type}(g:St->β):Int->ae->ae->Int->ae->Int->Int->ae->I5 β:=Aq.unc g
def aty:PT St:=pS [sP 1,sl 8 (aV false [(ej 20008)]),sI 9,sP 10,sP 12,sl 104 (aV false [(cD dB)])] [au 1 [(cD dL),(cD dL),xI,(cD dL),xI,xI],ei 20008 5,au 10 (xs 3),au 12 [xI,xI]]
def amH {β:Type}(g:St->β):Int->Bool->ae->ae->Int->ae->Int->Int->ae->I5 β:=aty.unc g
def JG:PT St:=pS [sP 1,sl 8 (aV false [(ej 20008)]),sI 9] [au 1 [(cD dL),(cD dL),xI,(cD dL),xI,xI],ei 20008 5]
def KC {β:Type}(g:St->β):Int->ae->ae->Int->ae->Int->Int->ae->β:=JG.unc g
def apL:PT St:=pS [sP 1,sl 8 (aV false [(ej 20008)]),sI 9,sl 76 (aV false [(cD dB)])] [au 1 [(cD dL),(cD dL),xI,(cD dL),xI,xI],ei 20008 5]
def AS {β:Type}(g:St->β):Int->Bool->ae->ae->Int->ae->Int->Int->ae->β:=apL.unc g
def aiR:PT (List RV):=pRs [pR false [rO 5],wI]
def Dx {β:Type}(g:List RV->β):ae->Int->β:=aiR.unc g
def agd:ag:=ag.sub [1,1,1,1,1,1,1,0,1,0,0,1,0,0,1,1,1,0] (emb Kg)
abbrev LP:Type 1:=(α:Type)->Int->ae->(Int->Int->Op α)->(Bool->Op α)->Op α
def L1 (α:Type)(a:Int)(b:ae)(k1:Int->Int->Op α)(k2:Bool->Op α):Op α:=
 cK (decide (a < ((List.length b:Nat):Int)))
 (dG b a [.int .i64,.int .i64]
 (fun c d=>k1 c d))
 (k2 (decide (a < ((List.length b:Nat):Int))))
def uQ:LP:=sld L1
def Jf (v:LP)(α:Type)(K:KT α):Int->ae->ae->Int->ae->Int->Int->ae->I5 (Op α):=fun a d b e g h i j l m o p q=>v α a b (fun c r=>aqy (K .normal) a d b e g h i j l m o c r) (fun c=>amH (K .normal) a c d b e g h i j l m o p q)
theorem asx:∀ (α:Type) (K:KT α),Jf uQ α K=Aq.unc fun σ=>az Pg Ek3 sF agd K σ:=aZ (fun α K=>by kernel_rfl)
def w7:ag:=ag.sub [1,1,1,1,1,1,1,0,1,0,0] (ag.put (.m [⟨Aq,Jf uQ⟩]) [1,1,1,1,1,1,1,0,1,0,0,1,0,0,1,1,1] (emb Kg))
def sS (α:Type)(h l:ae)(m c:Int)(e:ae)(kn:Int->ae->Op α)(k1:Op α)(k2:Int->Bool->ae->Op α):Op α:=
 cK (decide (c < ((List.length h:Nat):Int)))
 (dG h c [.int .i64,.int .i64,.int .i64]
 (fun a g b=>cq α (w64 (b*m)) 1000
 (fun d=>uQ α c l
 (fun j i=>cK (decide (1000000 < i))
 (k1)
 (gK (cy 5 40 e [[DC.v (.int .i64 a),DC.v (.int .i64 a),DC.v (.int .i64 j),DC.v (.int .i64 i),DC.v (.int .i64 g)]]) (kn (w64 (c+1)) (e++[[DC.v (.int .i64 a),DC.v (.int .i64 a),DC.v (.int .i64 j),DC.v (.int .i64 i),DC.v (.int .i64 g)]]))))
 (fun o=>cK (decide (1000000 < (w64 (b+d))))
 (k1)
 (gK (cy 5 40 e [[DC.v (.int .i64 a),DC.v (.int .i64 a),DC.v (.int .i64 (if (w64 (b - d)) > 0 then (w64 (b - d)) else 0)),DC.v (.int .i64 (w64 (b+d))),DC.v (.int .i64 g)]]) (kn (w64 (c+1)) (e++[[DC.v (.int .i64 a),DC.v (.int .i64 a),DC.v (.int .i64 (if (w64 (b - d)) > 0 then (w64 (b - d)) else 0)),DC.v (.int .i64 (w64 (b+d))),DC.v (.int .i64 g)]])))))))
 (k2 c (decide (c < ((List.length h:Nat):Int))) e)
def kj (α:Type)(a b:ae)(c:Int)(k1:Op α)(k2:Int->Bool->ae->Op α):Nat->Int->ae->Op α
 | 0,_,_=>none
 | n+1,d,e=>sS α a b c d e (kj α a b c k1 k2 n) k1 k2
def L2 (α:Type)(a b:ae)(c:Int)(k1:Op α)(k2:Int->Bool->ae->Op α)(d:Int)(e:ae):Op α:=kj α a b c k1 k2 aF d e
abbrev Nc:Type 1:=(α:Type)->ae->ae->Int->(Op α)->(Int->Bool->ae->Op α)->Int->ae->Op α
def As:Nc:=sld L2
def XE (v:Nc)(α:Type)(K:KT α):Int->ae->ae->Int->ae->Int->Int->ae->Op α:=fun d a b c e g h i=>v α a b c (cU (K .ret) 8 ([]:ae)) (fun j l m=>AS (K (.exit 4)) j l a b c e g h m) d i
theorem au3 (α:Type)(K:KT α)(Kn:SK α)(a:Int)(b c:ae)(d:Int)(g:ae)(h i:Int)(e:ae):KC (fun σ=>az Pg Ek3 sF w7 (bK (fun σ=>bq wO σ Kn) K) σ) a b c d g h i e=sS α b c d a e (fun a e=>KC Kn a b c d g h i e) (cU (K .ret) 8 ([]:ae)) (fun j l m=>AS (K (.exit 4)) j l b c d g h i m):=by kernel_rfl
theorem auY (α:Type)(K:KT α):∀ (n:Nat) (d:Int) (a b:ae) (c:Int) (g:ae) (h i:Int) (e:ae),kj α a b c (cU (K .ret) 8 ([]:ae)) (fun j l m=>AS (K (.exit 4)) j l a b c g h i m) n d e=KC (aJ (az Pg Ek3 sF w7) wO K n) d a b c g h i e:=by
 intro n
 induction n with
 | zero=>intros;rfl
 | succ n ih=>intro d a b c g h i e;exact (congrArg (fun kn=>sS α a b c d e kn (cU (K .ret) 8 ([]:ae)) (fun j l m=>AS (K (.exit 4)) j l a b c g h i m)) (funext fun d=>funext fun e=>ih d a b c g h i e)).trans (au3 α K (aJ (az Pg Ek3 sF w7) wO K n) d a b c g h i e).symm
theorem at7:∀ (α:Type) (K:KT α),XE As α K=JG.unc fun σ=>aJ (az Pg Ek3 sF w7) wO K aF σ:=aZ (fun α K=>funext fun a=>funext fun b=>funext fun c=>funext fun d=>funext fun e=>funext fun g=>funext fun h=>funext fun i=>auY α K aF a b c d e g h i)
def tR:ag:=ag.sub [1,1,1,1,0,1,0,0] (emb Kg)
def tG (α:Type)(b:ae)(a:Int)(kn:Int->Op α)(k1:Int->Op α)(k2:Int->Bool->Op α):Op α:=
 cK (decide (a < ((List.length b:Nat):Int)))
 (dG b a [.int .i64,.int .i64]
 (fun d e=>Mx α d e 0 1000000
 (fun c=>cK (c != 0)
 (k1 c)
 (kn (w64 (a+1))))))
 (k2 a (decide (a < ((List.length b:Nat):Int))))
def qX (α:Type)(a:ae)(k1:Int->Op α)(k2:Int->Bool->Op α):Nat->Int->Op α
 | 0,_=>none
 | n+1,b=>tG α a b (qX α a k1 k2 n) k1 k2
def Lt (α:Type)(a:ae)(k1:Int->Op α)(k2:Int->Bool->Op α)(b:Int):Op α:=qX α a k1 k2 aF b
abbrev OL:Type 1:=(α:Type)->ae->(Int->Op α)->(Int->Bool->Op α)->Int->Op α
def A1:OL:=sld Lt
def RE (v:OL)(α:Type)(K:KT α):Int->ae->ae->Int->ae->Int->Int->Op α:=fun c d b e g h i=>v α b (fun a=>cU (K .ret) a ([]:ae)) (fun a j=>A2 (K (.exit 2)) a j d b e g h i) c
theorem arc (α:Type)(K:KT α)(Kn:SK α)(a:Int)(c b:ae)(d:Int)(e:ae)(g h:Int):Ib (fun σ=>az Pg Ek3 sF tR (bK (fun σ=>bq xa σ Kn) K) σ) a c b d e g h=tG α b a (fun a=>Ib Kn a c b d e g h) (fun i=>cU (K .ret) i ([]:ae)) (fun i j=>A2 (K (.exit 2)) i j c b d e g h):=by kernel_rfl
theorem amW (α:Type)(K:KT α):∀ (n:Nat) (b:Int) (d a:ae) (e:Int) (g:ae) (h i:Int),qX α a (fun c=>cU (K .ret) c ([]:ae)) (fun c j=>A2 (K (.exit 2)) c j d a e g h i) n b=Ib (aJ (az Pg Ek3 sF tR) xa K n) b d a e g h i:=by
 intro n
 induction n with
 | zero=>intros;rfl
 | succ n ih=>intro b d a e g h i;exact (congrArg (fun kn=>tG α a b kn (fun c=>cU (K .ret) c ([]:ae)) (fun c j=>A2 (K (.exit 2)) c j d a e g h i)) (funext fun b=>ih b d a e g h i)).trans (arc α K (aJ (az Pg Ek3 sF tR) xa K n) b d a e g h i).symm
theorem amN:∀ (α:Type) (K:KT α),RE A1 α K=IK.unc fun σ=>aJ (az Pg Ek3 sF tR) xa K aF σ:=aZ (fun α K=>funext fun a=>funext fun b=>funext fun c=>funext fun d=>funext fun e=>funext fun g=>funext fun h=>amW α K aF a b c d e g h)
def tH:ag:=ag.sub [1,1,0,1,0,0] (emb Kg)
def t6 (α:Type)(b:ae)(a:Int)(kn:Int->Op α)(k1:Op α)(k2:Int->Bool->Op α):Op α:=
 cK (decide (a < ((List.length b:Nat):Int)))
 (dG b a [.int .i64,.int .i64,.int .i64]
 (fun c d e=>cL α c 5000 80000
 (fun g=>cK (!g)
 (k1)
 (cL α d 0 80000
 (fun h=>cK (!h)
 (k1)
 (cL α e 0 1000000
 (fun i=>cK (!i)
 (k1)
 (kn (w64 (a+1))))))))))
 (k2 a (decide (a < ((List.length b:Nat):Int))))
def qN (α:Type)(a:ae)(k1:Op α)(k2:Int->Bool->Op α):Nat->Int->Op α
 | 0,_=>none
 | n+1,b=>t6 α a b (qN α a k1 k2 n) k1 k2
def Lq (α:Type)(a:ae)(k1:Op α)(k2:Int->Bool->Op α)(b:Int):Op α:=qN α a k1 k2 aF b
def z7:AQ:=sld Lq
def Yx (v:AQ)(α:Type)(K:KT α):Int->ae->ae->Int->ae->Int->Int->Op α:=fun b a c d e g h=>v α a (cU (K .ret) 2 ([]:ae)) (fun i j=>zU (K (.exit 0)) i j a c d e g h) b
theorem anQ (α:Type)(K:KT α)(Kn:SK α)(a:Int)(b c:ae)(d:Int)(e:ae)(g h:Int):Jh (fun σ=>az Pg Ek3 sF tH (bK (fun σ=>bq ve σ Kn) K) σ) a b c d e g h=t6 α b a (fun a=>Jh Kn a b c d e g h) (cU (K .ret) 2 ([]:ae)) (fun i j=>zU (K (.exit 0)) i j b c d e g h):=by kernel_rfl
theorem atM (α:Type)(K:KT α):∀ (n:Nat) (b:Int) (a c:ae) (d:Int) (e:ae) (g h:Int),qN α a (cU (K .ret) 2 ([]:ae)) (fun i j=>zU (K (.exit 0)) i j a c d e g h) n b=Jh (aJ (az Pg Ek3 sF tH) ve K n) b a c d e g h:=by
 intro n
 induction n with
 | zero=>intros;rfl
 | succ n ih=>intro b a c d e g h;exact (congrArg (fun kn=>t6 α a b kn (cU (K .ret) 2 ([]:ae)) (fun i j=>zU (K (.exit 0)) i j a c d e g h)) (funext fun b=>ih b a c d e g h)).trans (anQ α K (aJ (az Pg Ek3 sF tH) ve K n) b a c d e g h).symm
theorem anU:∀ (α:Type) (K:KT α),Yx z7 α K=IP.unc fun σ=>aJ (az Pg Ek3 sF tH) ve K aF σ:=aZ (fun α K=>funext fun a=>funext fun b=>funext fun c=>funext fun d=>funext fun e=>funext fun g=>funext fun h=>atM α K aF a b c d e g h)
abbrev I1:Type 1:=(α:Type)->ae->ae->Int->(ae->Int->Op α)->Op α
def adB (α:Type)(a b:ae)(c:Int)(k1:ae->Int->Op α):Op α:=
 cK (decide (40 < ((List.length a:Nat):Int)))
 (k1 ([]:ae) 8)
 (z7 α a
 (k1 ([]:ae) 2)
 (fun h i=>cK (decide (((List.length a:Nat):Int) < ((List.length b:Nat):Int)))
 (k1 ([]:ae) 12)
 (A1 α b
 (fun d=>k1 ([]:ae) d)
 (fun j l=>cL α c 0 1000
 (fun e=>cK (!e)
 (k1 ([]:ae) 2)
 (As α a b c
 (k1 ([]:ae) 8)
 (fun m o g=>k1 g 0) 0 ([]:ae)))) 0)) 0)
def HP:I1:=sld adB
def ad9 (v:I1)(α:Type)(k:RT α):ae->ae->Int->ae->Int->Int->Op α:=fun a b c g h i=>v α a b c (fun d e=>Dx k d e)
def awv:ag:=(ag.put (.m [⟨IP,Yx z7⟩]) [1,1,0,1,0] (ag.put (.m [⟨IK,RE A1⟩]) [1,1,1,1,0,1,0] (ag.put (.m [⟨JG,XE As⟩]) [1,1,1,1,1,1,1,0,1,0] (ag.put (.m [⟨Aq,Jf uQ⟩]) [1,1,1,1,1,1,1,0,1,0,0,1,0,0,1,1,1] (emb Kg)))))
theorem azm:ak Pg 33 126 ⟨eM,ad9 HP⟩:=iZ ek3 (ah Tryz.func33 (by kernel_rfl)) sF awv ((an _ _).trans ((an _ _).trans ((an _ _).trans ((an _ _).trans (aA _))))) (aY (td:=ve) (by kernel_rfl) (aY (td:=xa) (by kernel_rfl) (aY (td:=wO) (by kernel_rfl) (aM (by kernel_rfl) (aD Kg) ⟨asx,trivial⟩) ⟨at7,trivial⟩) ⟨amN,trivial⟩) ⟨anU,trivial⟩) fun _ _=>by kernel_rfl
def aHi:SG:=[(9,iS 4),(10,iS 4),(15,iS 2),(18,iS 2),(20,iS 2),(25,iS 8),(27,iS 2),(30,iS 2),(33,iS 2),(35,iS 2),(40,iS 8),(42,iS 2)]
def aAn:TG:=[tT 0 [1,2,4],tT 1 [1,2,4,6],tT 2 [2,4,6,13],tT 3 [2,4,6,7],tT 4 [2,4,6],tT 5 [4,5],tT 6 [2,4,6,8],tT 7 [2,4,6],tT 8 [4,5]]
def aDL:aq:=aw Pg Tryz.f120 aAn aC
def Z4:PT (List RV):=pRs [pR true [rD (dI .i64),rD (dI .i64),rD (dI .i64),rD (dI .i64),rD (dI .i64),rD (dI .i64),rD (dI .i64),rD (dI .i64)],pR false [rD dB]]
def abe {β:Type}(g:List RV->β):Int->Int->Int->Int->Int->Int->Int->Int->Bool->β:=Z4.unc g
abbrev X3:Type 1:=(α:Type)->Int->Int->Int->Int->Int->(I4 (Bool->Op α))->Op α
def RI (α:Type)(a b c d e:Int)(k1:I4 (Bool->Op α)):Op α:=
 cK (e == 1)
 (xP α a b
 (fun g h=>o3 α a b
 (fun i=>k1 g d h c i)))
 (xP α c d
 (fun j l=>o3 α c d
 (fun m=>k1 b j a l m)))
def jP:X3:=sld RI
def Qs:PT (List DV):=pA [pV true [(dI .i64),(dI .i64),(dI .i64),(dI .i64)],vI]
def SP (v:X3)(α:Type)(k:RT α):I5 (Op α):=fun a b c d e=>v α a b c d e (fun g h i j l=>abe k a g c h i b j d l)
theorem asn:ak Pg 120 44 ⟨Qs,SP jP⟩:=iP ek3 aDL (ah Tryz.func120 (by kernel_rfl)) aHi fun _ _=>by kernel_rfl
def aFO:TG:=[tT 0 [0],tT 1 [3],tT 2 [3,4],tT 3 [4,5],tT 4 [4,6],tT 5 [6,23,24],tT 6 [6,23,24,25],tT 7 [6,23,24],tT 8 [6,23,24],tT 9 [2]]
def aFA:TG:=[tT 6 [6,23,24]]
def Wo:aq:=aw Pg Tryz.f256 aFO aFA
def oa:OT:=tdC (ag.sub [1,1,1,1,1,0,1,0] (emb Wo))
def Bp:PT St:=pS [sI 6,sI 23,sI 24] []
def Bg {β:Type}(g:St->β):Int->Int->Int->β:=Bp.unc g
def adA:PT St:=pS [sI 6,sI 23,sI 24,sl 25 (aV false [(cD dB)])] []
def tK {β:Type}(g:St->β):Int->Int->Int->Bool->β:=adA.unc g
def qS:ag:=ag.sub [1,1,1,1,1,0,1,0,0] (emb Wo)
def pL (α:Type)(c b a:Int)(kn:Int->Int->Op α)(k1:Int->Int->Bool->Op α):Op α:=
 cK (decide (a < c))
 (cC α (w64 (b*b)) 1073741824
 (fun d=>kn d (w64 (a+1))))
 (k1 b a (decide (a < c)))
def ld (α:Type)(a:Int)(k1:Int->Int->Bool->Op α):Nat->Int->Int->Op α
 | 0,_,_=>none
 | n+1,b,c=>pL α a b c (ld α a k1 n) k1
def FU (α:Type)(a:Int)(k1:Int->Int->Bool->Op α)(b c:Int):Op α:=ld α a k1 aF b c
def vj:gw:=sld FU
def N4 (v:gw)(α:Type)(K:KT α):Int->Int->Int->Op α:=fun b a c=>v α a (fun d e g=>tK (K (.exit 0)) d a e g) b c
theorem aha (α:Type)(K:KT α)(Kn:SK α)(a b c:Int):Bg (fun σ=>az Pg Ek3 aO qS (bK (fun σ=>bq oa σ Kn) K) σ) a b c=pL α b a c (fun a c=>Bg Kn a b c) (fun d e g=>tK (K (.exit 0)) d b e g):=by kernel_rfl
theorem ala (α:Type)(K:KT α):∀ (n:Nat) (b a c:Int),ld α a (fun d e g=>tK (K (.exit 0)) d a e g) n b c=Bg (aJ (az Pg Ek3 aO qS) oa K n) b a c:=by
 intro n
 induction n with
 | zero=>intros;rfl
 | succ n ih=>intro b a c;exact (congrArg (fun kn=>pL α a b c kn (fun d e g=>tK (K (.exit 0)) d a e g)) (funext fun b=>funext fun c=>ih b a c)).trans (aha α K (aJ (az Pg Ek3 aO qS) oa K n) b a c).symm
theorem aeR:∀ (α:Type) (K:KT α),N4 vj α K=Bp.unc fun σ=>aJ (az Pg Ek3 aO qS) oa K aF σ:=aZ (fun α K=>funext fun a=>funext fun b=>funext fun c=>ala α K aF a b c)
def SD (α:Type)(b:Int)(k1:Int->Op α):Op α:=
 yj α (w64 (Int.tdiv (w64 ((w64 (256*b))*62831853)) 10000000))
 (fun a=>gK (decide (0<=a)) (cC α (w64 ((Int.fdiv (w64 (Int.tdiv (w64 ((w64 (256*b))*62831853)) 10000000)) (2 ^ (min (Int.toNat a) 64)))*(Int.fdiv (w64 (Int.tdiv (w64 ((w64 (256*b))*62831853)) 10000000)) (2 ^ (min (Int.toNat a) 64))))) 2147483648
 (fun c=>vj α a
 (fun d e g=>k1 d) (w64 ((w64 (1073741824 - (Int.fdiv (w64 (Int.tdiv (w64 ((w64 (256*b))*62831853)) 10000000)) (2 ^ (min (Int.toNat a) 64)))))+c)) 0)))
def yS:cg:=sld SD
def Tw (v:cg)(α:Type)(k:RT α):Int->Op α:=fun a=>v α a (fun b=>aR k b)
def aoU:ag:=(ag.put (.m [⟨Bp,N4 vj⟩]) [1,1,1,1,1,0,1,0] (emb Wo))
theorem ate:ak Pg 256 32 ⟨aU,Tw yS⟩:=iZ ek3 (ah Tryz.func256 (by kernel_rfl)) aO aoU ((an _ _).trans (aA _)) (aY (td:=oa) (by kernel_rfl) (aD Wo) ⟨aeR,trivial⟩) fun _ _=>by kernel_rfl
def aA4:TG:=[tT 0 [0],tT 1 [3],tT 2 [3,4],tT 3 [4,5],tT 4 [4,6],tT 5 [6,31,32],tT 6 [6,31,32,33],tT 7 [6,31,32],tT 8 [6,31,32],tT 9 [2]]
def aCG:TG:=[tT 6 [6,31,32]]
def Uu:aq:=aw Pg Tryz.f255 aA4 aCG
def o5:OT:=tdC (ag.sub [1,1,1,1,1,0,1,0] (emb Uu))
def Cl:PT St:=pS [sI 6,sI 31,sI 32] []
def CV {β:Type}(g:St->β):Int->Int->Int->β:=Cl.unc g
def agb:PT St:=pS [sI 6,sI 31,sI 32,sl 33 (aV false [(cD dB)])] []
def wS {β:Type}(g:St->β):Int->Int->Int->Bool->β:=agb.unc g
def qK:ag:=ag.sub [1,1,1,1,1,0,1,0,0] (emb Uu)
def nq (α:Type)(c b a:Int)(kn:Int->Int->Op α)(k1:Int->Int->Bool->Op α):Op α:=
 cK (decide (a < c))
 (kn (w64 (Int.tdiv (w64 (b*b)) 1073741824)) (w64 (a+1)))
 (k1 b a (decide (a < c)))
def li (α:Type)(a:Int)(k1:Int->Int->Bool->Op α):Nat->Int->Int->Op α
 | 0,_,_=>none
 | n+1,b,c=>nq α a b c (li α a k1 n) k1
def Ht (α:Type)(a:Int)(k1:Int->Int->Bool->Op α)(b c:Int):Op α:=li α a k1 aF b c
def uw:gw:=sld Ht
def Nl (v:gw)(α:Type)(K:KT α):Int->Int->Int->Op α:=fun b a c=>v α a (fun d e g=>wS (K (.exit 0)) d a e g) b c
theorem acM (α:Type)(K:KT α)(Kn:SK α)(a b c:Int):CV (fun σ=>az Pg Ek3 aO qK (bK (fun σ=>bq o5 σ Kn) K) σ) a b c=nq α b a c (fun a c=>CV Kn a b c) (fun d e g=>wS (K (.exit 0)) d b e g):=by kernel_rfl
theorem akA (α:Type)(K:KT α):∀ (n:Nat) (b a c:Int),li α a (fun d e g=>wS (K (.exit 0)) d a e g) n b c=CV (aJ (az Pg Ek3 aO qK) o5 K n) b a c:=by
 intro n
 induction n with
 | zero=>intros;rfl
 | succ n ih=>intro b a c;exact (congrArg (fun kn=>nq α a b c kn (fun d e g=>wS (K (.exit 0)) d a e g)) (funext fun b=>funext fun c=>ih b a c)).trans (acM α K (aJ (az Pg Ek3 aO qK) o5 K n) b a c).symm
theorem aiG:∀ (α:Type) (K:KT α),Nl uw α K=Cl.unc fun σ=>aJ (az Pg Ek3 aO qK) o5 K aF σ:=aZ (fun α K=>funext fun a=>funext fun b=>funext fun c=>akA α K aF a b c)
def YK (α:Type)(d:Int)(k1:Int->Op α):Op α:=
 cC α (w64 ((w64 (256*d))*62831854)) 10000000
 (fun c=>yj α c
 (fun b=>gK (decide (0<=b)) (cC α c (w64 (1*2 ^ (min (Int.toNat b) 64)))
 (fun a=>cC α (w64 ((w64 (a*a))*a)) 6917529027641081856
 (fun e=>uw α b
 (fun g h i=>k1 g) (w64 ((w64 ((w64 (1073741824 - a))+(w64 (Int.tdiv (w64 (a*a)) 2147483648)))) - e)) 0)))))
def BS:cg:=sld YK
def TH (v:cg)(α:Type)(k:RT α):Int->Op α:=fun a=>v α a (fun b=>aR k b)
def aoK:ag:=(ag.put (.m [⟨Cl,Nl uw⟩]) [1,1,1,1,1,0,1,0] (emb Uu))
theorem aux:ak Pg 255 40 ⟨aU,TH BS⟩:=iZ ek3 (ah Tryz.func255 (by kernel_rfl)) aO aoK ((an _ _).trans (aA _)) (aY (td:=o5) (by kernel_rfl) (aD Uu) ⟨aiG,trivial⟩) fun _ _=>by kernel_rfl
def aAV:SG:=[(7,iS 2),(8,iS 2),(10,iS 2),(14,iT),(19,iT)]
def aGn:TG:=[tT 0 [2,3,4],tT 1 [4,5],tT 2 [4,5,6],tT 3 [4]]
def aCn:aq:=aw Pg Tryz.f285 aGn aC
def Vk (α:Type)(d e g h:Int)(k1:Int->Int->Op α):Op α:=
 yB α d e g h
 (fun b c=>jA α b c
 (fun i=>eF α i
 (fun a=>gK (a != 0) (gK (a != 0) (k1 (w64 (Int.tdiv (w64 (b*67108864)) a)) (w64 (Int.tdiv (w64 (c*67108864)) a)))))))
def DS:fP:=sld Vk
def Y9 (v:fP)(α:Type)(k:RT α):I4 (Op α):=fun a b c d=>v α a b c d (fun e g=>bu k e g)
theorem apr:ak Pg 285 24 ⟨fQ,Y9 DS⟩:=iP ek3 aCn (ah Tryz.func285 (by kernel_rfl)) aAV fun _ _=>by kernel_rfl
def aGD:TG:=[tT 0 [0,1,2],tT 1 [0,1,2,20],tT 2 [0,1,2],tT 3 [0,1,2,24],tT 4 [0,1,2],tT 5 [0,1,2,27],tT 6 [6,7],tT 7 [0,1,2,8],tT 8 [0,1,2,8],tT 9 [0,1,2,8,9],tT 10 [0,1,2,8,9,10],tT 11 [1,2,8,9,10,11],tT 12 [2,8,9,10,11,12],tT 13 [2,8,9,10,11,12,13],tT 14 [2,8,9,10,11,13,14],tT 15 [2,8,9,10,11,13,14,15],tT 16 [2,8,9,10,11,13,14,15,16],tT 17 [2,8,9,10,11,13,14,15,16,78],tT 18 [2,8,9,10,11,13,14,15,16],tT 19 [2,8,9,10,11,13,14,15,16],tT 20 [2,8,9,10,11,13,14,15,16,85],tT 21 [2,8,9,10,14,15,17],tT 22 [2,8,9,10,14,15,17,18],tT 23 [2,8,9,10,14,15,16,17,18],tT 24 [2,8,9,10,14,15,16,17,18,113],tT 25 [2,8,9,10,14,15,16,17,18],tT 26 [2,8,9,10,14,15,16,17,18],tT 27 [2,8,9,10,14,15,16,17,18,120],tT 28 [6,7]]
def aGP:TG:=[tT 17 [2,8,9,10,11,13,14,15,16],tT 24 [2,8,9,10,14,15,16,17,18]]
def rc:aq:=aw Pg Tryz.f234 aGD aGP
def ph:OT:=tdC (ag.sub [1,1,1,1,1,1,1,1,1,1,1,1,1,1,0,0] (emb rc))
def pW:OT:=tdC (ag.sub [1,1,1,1,1,1,1,1,1,1,1,1,1,1,1,1,1,1,0,0] (emb rc))
def fG:PT St:=pS [sl 2 (aV false [(cD (dI .u64))]),sl 8 (aV false [(cD (dI .u64))]),sl 9 (aV false [(cD (dI .u64))]),sl 10 (aV false [(cD (dI .u64))]),sl 11 (aV false [(cD (dI .u64))]),sl 13 (aV false [(cD (dI .u64))]),sl 14 (aV false [(cD (dI .u64))]),sl 15 (aV false [(cD (dI .u64))]),sl 16 (aV false [(cD (dI .u64))])] []
def BI {β:Type}(g:St->β):I9 β:=fG.unc g
def aeU:PT St:=pS [sl 2 (aV false [(cD (dI .u64))]),sl 8 (aV false [(cD (dI .u64))]),sl 9 (aV false [(cD (dI .u64))]),sl 10 (aV false [(cD (dI .u64))]),sl 11 (aV false [(cD (dI .u64))]),sl 13 (aV false [(cD (dI .u64))]),sl 14 (aV false [(cD (dI .u64))]),sl 15 (aV false [(cD (dI .u64))]),sl 16 (aV false [(cD (dI .u64))]),sl 78 (aV false [(cD dB)])] []
def ju {β:Type}(g:St->β):Int->Int->Int->Int->Int->Int->Int->Int->Int->Bool->β:=aeU.unc g
def agG:PT St:=pS [sl 2 (aV false [(cD (dI .u64))]),sl 8 (aV false [(cD (dI .u64))]),sl 9 (aV false [(cD (dI .u64))]),sl 10 (aV false [(cD (dI .u64))]),sl 11 (aV false [(cD (dI .u64))]),sl 13 (aV false [(cD (dI .u64))]),sl 14 (aV false [(cD (dI .u64))]),sl 15 (aV false [(cD (dI .u64))]),sl 16 (aV false [(cD (dI .u64))]),sl 85 (aV false [(cD dB)])] []
def py {β:Type}(g:St->β):Int->Int->Int->Int->Int->Int->Int->Int->Int->Bool->β:=agG.unc g
def fF:PT St:=pS [sl 2 (aV false [(cD (dI .u64))]),sl 8 (aV false [(cD (dI .u64))]),sl 9 (aV false [(cD (dI .u64))]),sl 10 (aV false [(cD (dI .u64))]),sl 14 (aV false [(cD (dI .u64))]),sl 15 (aV false [(cD (dI .u64))]),sl 16 (aV false [(cD (dI .u64))]),sl 17 (aV false [(cD (dI .u64))]),sl 18 (aV false [(cD (dI .u64))])] []
def CQ {β:Type}(g:St->β):I9 β:=fF.unc g
def agP:PT St:=pS [sl 2 (aV false [(cD (dI .u64))]),sl 8 (aV false [(cD (dI .u64))]),sl 9 (aV false [(cD (dI .u64))]),sl 10 (aV false [(cD (dI .u64))]),sl 14 (aV false [(cD (dI .u64))]),sl 15 (aV false [(cD (dI .u64))]),sl 16 (aV false [(cD (dI .u64))]),sl 17 (aV false [(cD (dI .u64))]),sl 18 (aV false [(cD (dI .u64))]),sl 113 (aV false [(cD dB)])] []
def jo {β:Type}(g:St->β):Int->Int->Int->Int->Int->Int->Int->Int->Int->Bool->β:=agP.unc g
def agK:PT St:=pS [sl 2 (aV false [(cD (dI .u64))]),sl 8 (aV false [(cD (dI .u64))]),sl 9 (aV false [(cD (dI .u64))]),sl 10 (aV false [(cD (dI .u64))]),sl 14 (aV false [(cD (dI .u64))]),sl 15 (aV false [(cD (dI .u64))]),sl 16 (aV false [(cD (dI .u64))]),sl 17 (aV false [(cD (dI .u64))]),sl 18 (aV false [(cD (dI .u64))]),sl 120 (aV false [(cD dB)])] []
def pU {β:Type}(g:St->β):Int->Int->Int->Int->Int->Int->Int->Int->Int->Bool->β:=agK.unc g
def aaz:ag:=ag.sub [1,1,1,1,1,1,1,1,1,1,1,1,1,1,1,1,1,1,0,0,0,0] (emb rc)
abbrev qD:Type 1:=(α:Type)->Int->Int->Int->Int->(Bool->Op α)->(Bool->Op α)->Op α
def Gx (α:Type)(b c d a:Int)(k1:Bool->Op α)(k2:Bool->Op α):Op α:=
 cK (decide (4294967296<=a))
 (k1 true)
 (cK (decide ((IntKind.wrap .u64 ((IntKind.wrap .u64 (4294967296*d))+c)) < (IntKind.wrap .u64 (a*b))))
 (k1 (decide ((IntKind.wrap .u64 ((IntKind.wrap .u64 (4294967296*d))+c)) < (IntKind.wrap .u64 (a*b)))))
 (k2 (decide ((IntKind.wrap .u64 ((IntKind.wrap .u64 (4294967296*d))+c)) < (IntKind.wrap .u64 (a*b))))))
def l6:qD:=sld Gx
def sT (v:qD)(α:Type)(K:KT α):I9 (Op α):=fun g h i a b j c l d=>v α a b c d (fun e=>jo (K .normal) g h i a b j c l d e) (fun e=>jo (K (.exit 2)) g h i a b j c l d e)
theorem afN:∀ (α:Type) (K:KT α),sT l6 α K=fF.unc fun σ=>az Pg Ek3 aO aaz K σ:=aZ (fun α K=>by kernel_rfl)
def qy:ag:=ag.sub [1,1,1,1,1,1,1,1,1,1,1,1,1,1,1,1,1,1,0,0,0] (ag.put (.m [⟨fF,sT l6⟩]) [1,1,1,1,1,1,1,1,1,1,1,1,1,1,1,1,1,1,0,0,0] (emb rc))
def wt (α:Type)(b d e a c:Int)(kn:Int->Int->Op α)(k1:Int->Int->Bool->Op α)(k2:Int->Int->Bool->Op α):Op α:=
 l6 α d e a c
 (fun h=>cK (decide (4294967296<=(IntKind.wrap .u64 (a+b))))
 (k1 (IntKind.wrap .u64 (a+b)) (IntKind.wrap .u64 (c - 1)) (decide (4294967296<=(IntKind.wrap .u64 (a+b)))))
 (kn (IntKind.wrap .u64 (a+b)) (IntKind.wrap .u64 (c - 1))))
 (fun g=>k2 a c g)
def ln (α:Type)(a b c:Int)(k1:Int->Int->Bool->Op α)(k2:Int->Int->Bool->Op α):Nat->Int->Int->Op α
 | 0,_,_=>none
 | n+1,d,e=>wt α a b c d e (ln α a b c k1 k2 n) k1 k2
def FR (α:Type)(a b c:Int)(k1:Int->Int->Bool->Op α)(k2:Int->Int->Bool->Op α)(d e:Int):Op α:=ln α a b c k1 k2 aF d e
abbrev qq:Type 1:=(α:Type)->Int->Int->Int->(Int->Int->Bool->Op α)->(Int->Int->Bool->Op α)->Int->Int->Op α
def pB:qq:=sld FR
def C6 (v:qq)(α:Type)(K:KT α):I9 (Op α):=fun h i a b c j m l o=>v α a b c (fun d e g=>pU (K (.exit 2)) h i a b c j d l e g) (fun d e g=>jo (K (.exit 2)) h i a b c j d l e g) m o
theorem alu (α:Type)(K:KT α)(Kn:SK α)(d e a b c g h i j:Int):CQ (fun σ=>az Pg Ek3 aO qy (bK (fun σ=>bq pW σ Kn) K) σ) d e a b c g h i j=wt α a b c h j (fun h j=>CQ Kn d e a b c g h i j) (fun l m o=>pU (K (.exit 2)) d e a b c g l i m o) (fun l m o=>jo (K (.exit 2)) d e a b c g l i m o):=by kernel_rfl
theorem amb (α:Type)(K:KT α):∀ (n:Nat) (d e a b c g i h j:Int),ln α a b c (fun l m o=>pU (K (.exit 2)) d e a b c g l h m o) (fun l m o=>jo (K (.exit 2)) d e a b c g l h m o) n i j=CQ (aJ (az Pg Ek3 aO qy) pW K n) d e a b c g i h j:=by
 intro n
 induction n with
 | zero=>intros;rfl
 | succ n ih=>intro d e a b c g i h j;exact (congrArg (fun kn=>wt α a b c i j kn (fun l m o=>pU (K (.exit 2)) d e a b c g l h m o) (fun l m o=>jo (K (.exit 2)) d e a b c g l h m o)) (funext fun i=>funext fun j=>ih d e a b c g i h j)).trans (alu α K (aJ (az Pg Ek3 aO qy) pW K n) d e a b c g i h j).symm
theorem ad0:∀ (α:Type) (K:KT α),C6 pB α K=fF.unc fun σ=>aJ (az Pg Ek3 aO qy) pW K aF σ:=aZ (fun α K=>funext fun a=>funext fun b=>funext fun c=>funext fun d=>funext fun e=>funext fun g=>funext fun h=>funext fun i=>funext fun j=>amb α K aF a b c d e g h i j)
def ZS:ag:=ag.sub [1,1,1,1,1,1,1,1,1,1,1,1,1,1,1,1,1,1,0] (ag.put (.m [⟨fF,C6 pB⟩]) [1,1,1,1,1,1,1,1,1,1,1,1,1,1,1,1,1,1,0,0] (ag.put (.m [⟨fF,sT l6⟩]) [1,1,1,1,1,1,1,1,1,1,1,1,1,1,1,1,1,1,0,0,0] (emb rc)))
abbrev qJ:Type 1:=(α:Type)->Int->Int->Int->Int->Int->(Int->Int->Bool->Op α)->(Int->Int->Bool->Op α)->Op α
def Fi (α:Type)(a b c d e:Int)(k1:Int->Int->Bool->Op α)(k2:Int->Int->Bool->Op α):Op α:=
 pB α a b c
 (fun g h i=>k1 g h i)
 (fun j l m=>k2 j l m) d e
def jI:qJ:=sld Fi
def Mu (v:qJ)(α:Type)(K:KT α):I9 (Op α):=fun h i a b c j m l o=>v α a b c m o (fun d e g=>pU (K .normal) h i a b c j d l e g) (fun d e g=>jo (K .normal) h i a b c j d l e g)
theorem aja:∀ (α:Type) (K:KT α),Mu jI α K=fF.unc fun σ=>az Pg Ek3 aO ZS K σ:=aZ (fun α K=>by kernel_rfl)
def aaM:ag:=ag.sub [1,1,1,1,1,1,1,1,1,1,1,1,1,1,0,0,0,0] (emb rc)
def Fc (α:Type)(b c a d:Int)(k1:Bool->Op α)(k2:Bool->Op α):Op α:=
 cK (decide (4294967296<=a))
 (k1 true)
 (cK (decide ((IntKind.wrap .u64 ((IntKind.wrap .u64 (4294967296*d))+c)) < (IntKind.wrap .u64 (a*b))))
 (k1 (decide ((IntKind.wrap .u64 ((IntKind.wrap .u64 (4294967296*d))+c)) < (IntKind.wrap .u64 (a*b)))))
 (k2 (decide ((IntKind.wrap .u64 ((IntKind.wrap .u64 (4294967296*d))+c)) < (IntKind.wrap .u64 (a*b))))))
def lY:qD:=sld Fc
def uJ (v:qD)(α:Type)(K:KT α):I9 (Op α):=fun g h i a j b l c d=>v α a b c d (fun e=>ju (K .normal) g h i a j b l c d e) (fun e=>ju (K (.exit 0)) g h i a j b l c d e)
theorem af0:∀ (α:Type) (K:KT α),uJ lY α K=fG.unc fun σ=>az Pg Ek3 aO aaM K σ:=aZ (fun α K=>by kernel_rfl)
def p5:ag:=ag.sub [1,1,1,1,1,1,1,1,1,1,1,1,1,1,0,0,0] (ag.put (.m [⟨fG,uJ lY⟩]) [1,1,1,1,1,1,1,1,1,1,1,1,1,1,0,0,0] (emb rc))
def tB (α:Type)(b d e c a:Int)(kn:Int->Int->Op α)(k1:Int->Int->Bool->Op α)(k2:Int->Int->Bool->Op α):Op α:=
 lY α d e c a
 (fun h=>cK (decide (4294967296<=(IntKind.wrap .u64 (a+b))))
 (k1 (IntKind.wrap .u64 (c - 1)) (IntKind.wrap .u64 (a+b)) (decide (4294967296<=(IntKind.wrap .u64 (a+b)))))
 (kn (IntKind.wrap .u64 (c - 1)) (IntKind.wrap .u64 (a+b))))
 (fun g=>k2 c a g)
def lU (α:Type)(a b c:Int)(k1:Int->Int->Bool->Op α)(k2:Int->Int->Bool->Op α):Nat->Int->Int->Op α
 | 0,_,_=>none
 | n+1,d,e=>tB α a b c d e (lU α a b c k1 k2 n) k1 k2
def F0 (α:Type)(a b c:Int)(k1:Int->Int->Bool->Op α)(k2:Int->Int->Bool->Op α)(d e:Int):Op α:=lU α a b c k1 k2 aF d e
def oZ:qq:=sld F0
def DH (v:qq)(α:Type)(K:KT α):I9 (Op α):=fun h i a b j c l m o=>v α a b c (fun d e g=>py (K (.exit 0)) h i a b j c l d e g) (fun d e g=>ju (K (.exit 0)) h i a b j c l d e g) m o
theorem agB (α:Type)(K:KT α)(Kn:SK α)(d e a b g c h i j:Int):BI (fun σ=>az Pg Ek3 aO p5 (bK (fun σ=>bq ph σ Kn) K) σ) d e a b g c h i j=tB α a b c i j (fun i j=>BI Kn d e a b g c h i j) (fun l m o=>py (K (.exit 0)) d e a b g c h l m o) (fun l m o=>ju (K (.exit 0)) d e a b g c h l m o):=by kernel_rfl
theorem ae7 (α:Type)(K:KT α):∀ (n:Nat) (d e a b g c h i j:Int),lU α a b c (fun l m o=>py (K (.exit 0)) d e a b g c h l m o) (fun l m o=>ju (K (.exit 0)) d e a b g c h l m o) n i j=BI (aJ (az Pg Ek3 aO p5) ph K n) d e a b g c h i j:=by
 intro n
 induction n with
 | zero=>intros;rfl
 | succ n ih=>intro d e a b g c h i j;exact (congrArg (fun kn=>tB α a b c i j kn (fun l m o=>py (K (.exit 0)) d e a b g c h l m o) (fun l m o=>ju (K (.exit 0)) d e a b g c h l m o)) (funext fun i=>funext fun j=>ih d e a b g c h i j)).trans (agB α K (aJ (az Pg Ek3 aO p5) ph K n) d e a b g c h i j).symm
theorem aeQ:∀ (α:Type) (K:KT α),DH oZ α K=fG.unc fun σ=>aJ (az Pg Ek3 aO p5) ph K aF σ:=aZ (fun α K=>funext fun a=>funext fun b=>funext fun c=>funext fun d=>funext fun e=>funext fun g=>funext fun h=>funext fun i=>funext fun j=>ae7 α K aF a b c d e g h i j)
def aaP:ag:=ag.sub [1,1,1,1,1,1,1,1,1,1,1,1,1,1,0] (ag.put (.m [⟨fG,DH oZ⟩]) [1,1,1,1,1,1,1,1,1,1,1,1,1,1,0,0] (ag.put (.m [⟨fG,uJ lY⟩]) [1,1,1,1,1,1,1,1,1,1,1,1,1,1,0,0,0] (emb rc)))
def Gb (α:Type)(a b c d e:Int)(k1:Int->Int->Bool->Op α)(k2:Int->Int->Bool->Op α):Op α:=
 oZ α a b c
 (fun g h i=>k1 g h i)
 (fun j l m=>k2 j l m) d e
def ox:qJ:=sld Gb
def LB (v:qJ)(α:Type)(K:KT α):I9 (Op α):=fun h i a b j c l m o=>v α a b c m o (fun d e g=>py (K .normal) h i a b j c l d e g) (fun d e g=>ju (K .normal) h i a b j c l d e g)
theorem afI:∀ (α:Type) (K:KT α),LB ox α K=fG.unc fun σ=>az Pg Ek3 aO aaP K σ:=aZ (fun α K=>by kernel_rfl)
def U3 (α:Type)(d c b:Int)(k1:Int->Int->Op α):Op α:=
 cK (b == 0)
 (none)
 (cK (decide (b<=d))
 (none)
 (cK (d == 0)
 (gK (b != 0) (gK (b != 0) (k1 (IntKind.wrap .u64 (Int.tdiv c b)) (Int.tmod c b))))
 (Cw α b
 (fun a=>gK (decide (0<=(IntKind.wrap .u64 (a)))) (gK (decide (0<=(IntKind.wrap .u64 (a)))) (gK (decide (0<=(IntKind.wrap .u64 (64 - (IntKind.wrap .u64 (a)))))) (gK (decide (0<=(IntKind.wrap .u64 (a)))) (gK ((Int.fdiv (IntKind.wrap .u64 (b*2 ^ (min (Int.toNat (IntKind.wrap .u64 (a))) 64))) (2 ^ 32)) != 0) (ox α (Int.fdiv (IntKind.wrap .u64 (b*2 ^ (min (Int.toNat (IntKind.wrap .u64 (a))) 64))) (2 ^ 32)) (mz .u64 (IntKind.wrap .u64 (b*2 ^ (min (Int.toNat (IntKind.wrap .u64 (a))) 64))) 4294967295) (Int.fdiv (IntKind.wrap .u64 (c*2 ^ (min (Int.toNat (IntKind.wrap .u64 (a))) 64))) (2 ^ 32)) (IntKind.wrap .u64 (Int.tdiv (iOr .u64 (IntKind.wrap .u64 (d*2 ^ (min (Int.toNat (IntKind.wrap .u64 (a))) 64))) (Int.fdiv c (2 ^ (min (Int.toNat (IntKind.wrap .u64 (64 - (IntKind.wrap .u64 (a))))) 64)))) (Int.fdiv (IntKind.wrap .u64 (b*2 ^ (min (Int.toNat (IntKind.wrap .u64 (a))) 64))) (2 ^ 32)))) (IntKind.wrap .u64 ((iOr .u64 (IntKind.wrap .u64 (d*2 ^ (min (Int.toNat (IntKind.wrap .u64 (a))) 64))) (Int.fdiv c (2 ^ (min (Int.toNat (IntKind.wrap .u64 (64 - (IntKind.wrap .u64 (a))))) 64)))) - (IntKind.wrap .u64 ((IntKind.wrap .u64 (Int.tdiv (iOr .u64 (IntKind.wrap .u64 (d*2 ^ (min (Int.toNat (IntKind.wrap .u64 (a))) 64))) (Int.fdiv c (2 ^ (min (Int.toNat (IntKind.wrap .u64 (64 - (IntKind.wrap .u64 (a))))) 64)))) (Int.fdiv (IntKind.wrap .u64 (b*2 ^ (min (Int.toNat (IntKind.wrap .u64 (a))) 64))) (2 ^ 32))))*(Int.fdiv (IntKind.wrap .u64 (b*2 ^ (min (Int.toNat (IntKind.wrap .u64 (a))) 64))) (2 ^ 32))))))
 (fun e m o=>gK ((Int.fdiv (IntKind.wrap .u64 (b*2 ^ (min (Int.toNat (IntKind.wrap .u64 (a))) 64))) (2 ^ 32)) != 0) (jI α (Int.fdiv (IntKind.wrap .u64 (b*2 ^ (min (Int.toNat (IntKind.wrap .u64 (a))) 64))) (2 ^ 32)) (mz .u64 (IntKind.wrap .u64 (b*2 ^ (min (Int.toNat (IntKind.wrap .u64 (a))) 64))) 4294967295) (mz .u64 (IntKind.wrap .u64 (c*2 ^ (min (Int.toNat (IntKind.wrap .u64 (a))) 64))) 4294967295) (IntKind.wrap .u64 ((IntKind.wrap .u64 ((IntKind.wrap .u64 ((IntKind.wrap .u64 ((iOr .u64 (IntKind.wrap .u64 (d*2 ^ (min (Int.toNat (IntKind.wrap .u64 (a))) 64))) (Int.fdiv c (2 ^ (min (Int.toNat (IntKind.wrap .u64 (64 - (IntKind.wrap .u64 (a))))) 64))))*4294967296))+(Int.fdiv (IntKind.wrap .u64 (c*2 ^ (min (Int.toNat (IntKind.wrap .u64 (a))) 64))) (2 ^ 32)))) - (IntKind.wrap .u64 (e*(IntKind.wrap .u64 (b*2 ^ (min (Int.toNat (IntKind.wrap .u64 (a))) 64))))))) - (IntKind.wrap .u64 ((IntKind.wrap .u64 (Int.tdiv (IntKind.wrap .u64 ((IntKind.wrap .u64 ((IntKind.wrap .u64 ((iOr .u64 (IntKind.wrap .u64 (d*2 ^ (min (Int.toNat (IntKind.wrap .u64 (a))) 64))) (Int.fdiv c (2 ^ (min (Int.toNat (IntKind.wrap .u64 (64 - (IntKind.wrap .u64 (a))))) 64))))*4294967296))+(Int.fdiv (IntKind.wrap .u64 (c*2 ^ (min (Int.toNat (IntKind.wrap .u64 (a))) 64))) (2 ^ 32)))) - (IntKind.wrap .u64 (e*(IntKind.wrap .u64 (b*2 ^ (min (Int.toNat (IntKind.wrap .u64 (a))) 64))))))) (Int.fdiv (IntKind.wrap .u64 (b*2 ^ (min (Int.toNat (IntKind.wrap .u64 (a))) 64))) (2 ^ 32))))*(Int.fdiv (IntKind.wrap .u64 (b*2 ^ (min (Int.toNat (IntKind.wrap .u64 (a))) 64))) (2 ^ 32)))))) (IntKind.wrap .u64 (Int.tdiv (IntKind.wrap .u64 ((IntKind.wrap .u64 ((IntKind.wrap .u64 ((iOr .u64 (IntKind.wrap .u64 (d*2 ^ (min (Int.toNat (IntKind.wrap .u64 (a))) 64))) (Int.fdiv c (2 ^ (min (Int.toNat (IntKind.wrap .u64 (64 - (IntKind.wrap .u64 (a))))) 64))))*4294967296))+(Int.fdiv (IntKind.wrap .u64 (c*2 ^ (min (Int.toNat (IntKind.wrap .u64 (a))) 64))) (2 ^ 32)))) - (IntKind.wrap .u64 (e*(IntKind.wrap .u64 (b*2 ^ (min (Int.toNat (IntKind.wrap .u64 (a))) 64))))))) (Int.fdiv (IntKind.wrap .u64 (b*2 ^ (min (Int.toNat (IntKind.wrap .u64 (a))) 64))) (2 ^ 32))))
 (fun p h q=>gK (decide (0<=(IntKind.wrap .u64 (a)))) (k1 (IntKind.wrap .u64 ((IntKind.wrap .u64 (e*4294967296))+h)) (Int.fdiv (IntKind.wrap .u64 ((IntKind.wrap .u64 ((IntKind.wrap .u64 ((IntKind.wrap .u64 ((IntKind.wrap .u64 ((IntKind.wrap .u64 ((iOr .u64 (IntKind.wrap .u64 (d*2 ^ (min (Int.toNat (IntKind.wrap .u64 (a))) 64))) (Int.fdiv c (2 ^ (min (Int.toNat (IntKind.wrap .u64 (64 - (IntKind.wrap .u64 (a))))) 64))))*4294967296))+(Int.fdiv (IntKind.wrap .u64 (c*2 ^ (min (Int.toNat (IntKind.wrap .u64 (a))) 64))) (2 ^ 32)))) - (IntKind.wrap .u64 (e*(IntKind.wrap .u64 (b*2 ^ (min (Int.toNat (IntKind.wrap .u64 (a))) 64)))))))*4294967296))+(mz .u64 (IntKind.wrap .u64 (c*2 ^ (min (Int.toNat (IntKind.wrap .u64 (a))) 64))) 4294967295))) - (IntKind.wrap .u64 (h*(IntKind.wrap .u64 (b*2 ^ (min (Int.toNat (IntKind.wrap .u64 (a))) 64))))))) (2 ^ (min (Int.toNat (IntKind.wrap .u64 (a))) 64)))))
 (fun r i s=>gK (decide (0<=(IntKind.wrap .u64 (a)))) (k1 (IntKind.wrap .u64 ((IntKind.wrap .u64 (e*4294967296))+i)) (Int.fdiv (IntKind.wrap .u64 ((IntKind.wrap .u64 ((IntKind.wrap .u64 ((IntKind.wrap .u64 ((IntKind.wrap .u64 ((IntKind.wrap .u64 ((iOr .u64 (IntKind.wrap .u64 (d*2 ^ (min (Int.toNat (IntKind.wrap .u64 (a))) 64))) (Int.fdiv c (2 ^ (min (Int.toNat (IntKind.wrap .u64 (64 - (IntKind.wrap .u64 (a))))) 64))))*4294967296))+(Int.fdiv (IntKind.wrap .u64 (c*2 ^ (min (Int.toNat (IntKind.wrap .u64 (a))) 64))) (2 ^ 32)))) - (IntKind.wrap .u64 (e*(IntKind.wrap .u64 (b*2 ^ (min (Int.toNat (IntKind.wrap .u64 (a))) 64)))))))*4294967296))+(mz .u64 (IntKind.wrap .u64 (c*2 ^ (min (Int.toNat (IntKind.wrap .u64 (a))) 64))) 4294967295))) - (IntKind.wrap .u64 (i*(IntKind.wrap .u64 (b*2 ^ (min (Int.toNat (IntKind.wrap .u64 (a))) 64))))))) (2 ^ (min (Int.toNat (IntKind.wrap .u64 (a))) 64)))))))
 (fun g t w=>gK ((Int.fdiv (IntKind.wrap .u64 (b*2 ^ (min (Int.toNat (IntKind.wrap .u64 (a))) 64))) (2 ^ 32)) != 0) (jI α (Int.fdiv (IntKind.wrap .u64 (b*2 ^ (min (Int.toNat (IntKind.wrap .u64 (a))) 64))) (2 ^ 32)) (mz .u64 (IntKind.wrap .u64 (b*2 ^ (min (Int.toNat (IntKind.wrap .u64 (a))) 64))) 4294967295) (mz .u64 (IntKind.wrap .u64 (c*2 ^ (min (Int.toNat (IntKind.wrap .u64 (a))) 64))) 4294967295) (IntKind.wrap .u64 ((IntKind.wrap .u64 ((IntKind.wrap .u64 ((IntKind.wrap .u64 ((iOr .u64 (IntKind.wrap .u64 (d*2 ^ (min (Int.toNat (IntKind.wrap .u64 (a))) 64))) (Int.fdiv c (2 ^ (min (Int.toNat (IntKind.wrap .u64 (64 - (IntKind.wrap .u64 (a))))) 64))))*4294967296))+(Int.fdiv (IntKind.wrap .u64 (c*2 ^ (min (Int.toNat (IntKind.wrap .u64 (a))) 64))) (2 ^ 32)))) - (IntKind.wrap .u64 (g*(IntKind.wrap .u64 (b*2 ^ (min (Int.toNat (IntKind.wrap .u64 (a))) 64))))))) - (IntKind.wrap .u64 ((IntKind.wrap .u64 (Int.tdiv (IntKind.wrap .u64 ((IntKind.wrap .u64 ((IntKind.wrap .u64 ((iOr .u64 (IntKind.wrap .u64 (d*2 ^ (min (Int.toNat (IntKind.wrap .u64 (a))) 64))) (Int.fdiv c (2 ^ (min (Int.toNat (IntKind.wrap .u64 (64 - (IntKind.wrap .u64 (a))))) 64))))*4294967296))+(Int.fdiv (IntKind.wrap .u64 (c*2 ^ (min (Int.toNat (IntKind.wrap .u64 (a))) 64))) (2 ^ 32)))) - (IntKind.wrap .u64 (g*(IntKind.wrap .u64 (b*2 ^ (min (Int.toNat (IntKind.wrap .u64 (a))) 64))))))) (Int.fdiv (IntKind.wrap .u64 (b*2 ^ (min (Int.toNat (IntKind.wrap .u64 (a))) 64))) (2 ^ 32))))*(Int.fdiv (IntKind.wrap .u64 (b*2 ^ (min (Int.toNat (IntKind.wrap .u64 (a))) 64))) (2 ^ 32)))))) (IntKind.wrap .u64 (Int.tdiv (IntKind.wrap .u64 ((IntKind.wrap .u64 ((IntKind.wrap .u64 ((iOr .u64 (IntKind.wrap .u64 (d*2 ^ (min (Int.toNat (IntKind.wrap .u64 (a))) 64))) (Int.fdiv c (2 ^ (min (Int.toNat (IntKind.wrap .u64 (64 - (IntKind.wrap .u64 (a))))) 64))))*4294967296))+(Int.fdiv (IntKind.wrap .u64 (c*2 ^ (min (Int.toNat (IntKind.wrap .u64 (a))) 64))) (2 ^ 32)))) - (IntKind.wrap .u64 (g*(IntKind.wrap .u64 (b*2 ^ (min (Int.toNat (IntKind.wrap .u64 (a))) 64))))))) (Int.fdiv (IntKind.wrap .u64 (b*2 ^ (min (Int.toNat (IntKind.wrap .u64 (a))) 64))) (2 ^ 32))))
 (fun z j A=>gK (decide (0<=(IntKind.wrap .u64 (a)))) (k1 (IntKind.wrap .u64 ((IntKind.wrap .u64 (g*4294967296))+j)) (Int.fdiv (IntKind.wrap .u64 ((IntKind.wrap .u64 ((IntKind.wrap .u64 ((IntKind.wrap .u64 ((IntKind.wrap .u64 ((IntKind.wrap .u64 ((iOr .u64 (IntKind.wrap .u64 (d*2 ^ (min (Int.toNat (IntKind.wrap .u64 (a))) 64))) (Int.fdiv c (2 ^ (min (Int.toNat (IntKind.wrap .u64 (64 - (IntKind.wrap .u64 (a))))) 64))))*4294967296))+(Int.fdiv (IntKind.wrap .u64 (c*2 ^ (min (Int.toNat (IntKind.wrap .u64 (a))) 64))) (2 ^ 32)))) - (IntKind.wrap .u64 (g*(IntKind.wrap .u64 (b*2 ^ (min (Int.toNat (IntKind.wrap .u64 (a))) 64)))))))*4294967296))+(mz .u64 (IntKind.wrap .u64 (c*2 ^ (min (Int.toNat (IntKind.wrap .u64 (a))) 64))) 4294967295))) - (IntKind.wrap .u64 (j*(IntKind.wrap .u64 (b*2 ^ (min (Int.toNat (IntKind.wrap .u64 (a))) 64))))))) (2 ^ (min (Int.toNat (IntKind.wrap .u64 (a))) 64)))))
 (fun B l C=>gK (decide (0<=(IntKind.wrap .u64 (a)))) (k1 (IntKind.wrap .u64 ((IntKind.wrap .u64 (g*4294967296))+l)) (Int.fdiv (IntKind.wrap .u64 ((IntKind.wrap .u64 ((IntKind.wrap .u64 ((IntKind.wrap .u64 ((IntKind.wrap .u64 ((IntKind.wrap .u64 ((iOr .u64 (IntKind.wrap .u64 (d*2 ^ (min (Int.toNat (IntKind.wrap .u64 (a))) 64))) (Int.fdiv c (2 ^ (min (Int.toNat (IntKind.wrap .u64 (64 - (IntKind.wrap .u64 (a))))) 64))))*4294967296))+(Int.fdiv (IntKind.wrap .u64 (c*2 ^ (min (Int.toNat (IntKind.wrap .u64 (a))) 64))) (2 ^ 32)))) - (IntKind.wrap .u64 (g*(IntKind.wrap .u64 (b*2 ^ (min (Int.toNat (IntKind.wrap .u64 (a))) 64)))))))*4294967296))+(mz .u64 (IntKind.wrap .u64 (c*2 ^ (min (Int.toNat (IntKind.wrap .u64 (a))) 64))) 4294967295))) - (IntKind.wrap .u64 (l*(IntKind.wrap .u64 (b*2 ^ (min (Int.toNat (IntKind.wrap .u64 (a))) 64))))))) (2 ^ (min (Int.toNat (IntKind.wrap .u64 (a))) 64))))))))))))))))
def xY:fU:=sld U3
def Xc:PT (List DV):=pA [pV false [(dI .u64)],pV false [(dI .u64)],pV false [(dI .u64)]]
def Rj (v:fU)(α:Type)(k:RT α):Int->Int->Int->Op α:=fun a b c=>v α a b c (fun d e=>Hw k d e)
def aqI:ag:=(ag.put (.m [⟨fG,LB ox⟩]) [1,1,1,1,1,1,1,1,1,1,1,1,1,1] (ag.put (.m [⟨fG,DH oZ⟩]) [1,1,1,1,1,1,1,1,1,1,1,1,1,1,0,0] (ag.put (.m [⟨fG,uJ lY⟩]) [1,1,1,1,1,1,1,1,1,1,1,1,1,1,0,0,0] (ag.put (.m [⟨fF,Mu jI⟩]) [1,1,1,1,1,1,1,1,1,1,1,1,1,1,1,1,1,1] (ag.put (.m [⟨fF,C6 pB⟩]) [1,1,1,1,1,1,1,1,1,1,1,1,1,1,1,1,1,1,0,0] (ag.put (.m [⟨fF,sT l6⟩]) [1,1,1,1,1,1,1,1,1,1,1,1,1,1,1,1,1,1,0,0,0] (emb rc)))))))
theorem arj:ak Pg 234 135 ⟨Xc,Rj xY⟩:=iZ ek3 (ah Tryz.func234 (by kernel_rfl)) aO aqI ((an _ _).trans ((an _ _).trans ((an _ _).trans ((an _ _).trans ((an _ _).trans ((an _ _).trans (aA _))))))) (aM (by kernel_rfl) (aY (td:=ph) (by kernel_rfl) (aM (by kernel_rfl) (aM (by kernel_rfl) (aY (td:=pW) (by kernel_rfl) (aM (by kernel_rfl) (aD rc) ⟨afN,trivial⟩) ⟨ad0,trivial⟩) ⟨aja,trivial⟩) ⟨af0,trivial⟩) ⟨aeQ,trivial⟩) ⟨afI,trivial⟩) fun _ _=>by kernel_rfl
def avl:SG:=[(3,iS 2)]
def aDz:TG:=[tT 0 [1],tT 1 [2]]
def aCq:aq:=aw Pg Tryz.f196 aDz aC
def U6 (α:Type)(a b:Int)(k1:Int->Op α):Op α:=
 jA α a b
 (fun c=>eF α c
 (fun d=>k1 d))
def oH:bz:=sld U6
def VG (v:bz)(α:Type)(k:RT α):Int->Int->Op α:=fun a b=>v α a b (fun c=>aR k c)
theorem aob:ak Pg 196 6 ⟨ba,VG oH⟩:=iP ek3 aCq (ah Tryz.func196 (by kernel_rfl)) avl fun _ _=>by kernel_rfl
def aBV:TG:=[tT 0 [0],tT 1 [0,3],tT 2 [3,10],tT 3 [3],tT 4 [2]]
def aBE:aq:=aw Pg Tryz.f201 aBV aC
def IT (α:Type)(b:Int)(k1:Int->Op α):Op α:=
 eF α b
 (fun a=>cK (decide ((w64 (a*a)) < b))
 (k1 (w64 (a+1)))
 (k1 a))
def nP:cg:=sld IT
def U0 (v:cg)(α:Type)(k:RT α):Int->Op α:=fun a=>v α a (fun b=>aR k b)
theorem aut:ak Pg 201 14 ⟨aU,U0 nP⟩:=iP ek3 aBE (ah Tryz.func201 (by kernel_rfl)) aO fun _ _=>by kernel_rfl
def aAh:SG:=[(5,iT),(8,iS 3),(10,iS 2),(11,iT),(17,iT)]
def aCa:TG:=[tT 0 [1,2,3],tT 1 [1,2,3,7],tT 2 [3,4],tT 3 [3,4]]
def aCw:aq:=aw Pg Tryz.f230 aCa aC
abbrev TU:Type 1:=(α:Type)->Int->Int->Int->(Int->Int->Int->Op α)->Op α
def TJ (α:Type)(a b c:Int)(k1:Int->Int->Int->Op α):Op α:=
 j0 α c 1000000000
 (fun d=>cK (!d)
 (k1 a b 2)
 (jM α a b (Int.tmod (w64 ((Int.tmod c 4)+4)) 4)
 (fun e g=>k1 e g 0)))
def Ko:TU:=sld TJ
def Tr:PT (List DV):=pA [pV true [(dI .i64),(dI .i64),(dI .i64)],pV false [(dP [(dI .i64)] 0)]]
def Zv (v:TU)(α:Type)(k:RT α):I4 (Op α):=fun a b c d=>v α a b d (fun e g h=>bD k e g c h)
theorem amx:ak Pg 230 19 ⟨Tr,Zv Ko⟩:=iP ek3 aCw (ah Tryz.func230 (by kernel_rfl)) aAh fun _ _=>by kernel_rfl
def aEX:TG:=[tT 0 [0],tT 1 [2]]
def aAZ:aq:=aw Pg Tryz.f235 aEX aC
abbrev Zh:Type 1:=(α:Type)->Nat->(Bool->Op α)->Op α
def Yh (α:Type)(a:Nat)(k1:Bool->Op α):Op α:=
 WY α a
 (k1 false)
 (fun b=>cK ((FloatKind.format .f64).order b a == some Ordering.eq)
 (Xu α a 0
 (fun c=>k1 (!c)))
 (k1 false))
def Cc:Zh:=sld Yh
def TR (v:Zh)(α:Type)(k:RT α):Nat->Op α:=fun a=>v α a (fun b=>bi k b)
theorem aqh:ak Pg 235 12 ⟨kq,TR Cc⟩:=iP ek3 aAZ (ah Tryz.func235 (by kernel_rfl)) aO fun _ _=>by kernel_rfl
def av9:SG:=[(6,iT),(12,iT),(18,iT),(24,iS 2),(27,iT)]
def aFZ:TG:=[tT 0 [1,2],tT 1 [1,2,21],tT 2 [2,3],tT 3 [2,3]]
def af5:aq:=aw Pg Tryz.f232 aFZ aC
def Ds:PT St:=pS [sP 1,sP 2] [au 1 (xs 3),au 2 [(cD (dX .f64)),xI]]
def aDR {β:Type}(g:St->β):Int->Int->Int->Nat->Nat->Int->β:=Ds.unc g
def aeo:PT St:=pS [sP 1,sP 2,sl 21 (aV false [(cD dB)])] [au 1 (xs 3),au 2 [(cD (dX .f64)),xI]]
def aeD {β:Type}(g:St->β):Bool->Int->Int->Int->Nat->Nat->Int->β:=aeo.unc g
def abu:PT (List RV):=pRs [pR true [rD (dX .f64),rD (dI .i64)],wI]
def bF {β:Type}(g:List RV->β):Nat->Nat->Int->Int->β:=abu.unc g
def ajR:ag:=ag.sub [1,0,0] (emb af5)
def HM (α:Type)(a b c:Int)(k1:Bool->Op α):Op α:=
 j0 α a 67108864
 (fun d=>cK (!d)
 (k1 true)
 (j0 α b 67108864
 (fun e=>cK (!e)
 (k1 true)
 (kI α c 0 67108864
 (fun g=>k1 (!g))))))
def uV:ch:=sld HM
def Mo (v:ch)(α:Type)(K:KT α):Int->Int->Int->Nat->Nat->Int->Op α:=fun a b c d e g=>v α a b c (fun h=>aeD (K .normal) h a b c d e g)
theorem ajv:∀ (α:Type) (K:KT α),Mo uV α K=Ds.unc fun σ=>az Pg Ek3 av9 ajR K σ:=aZ (fun α K=>by kernel_rfl)
abbrev qn:Type 1:=(α:Type)->Int->Int->Int->(Nat->Nat->Int->Int->Op α)->Op α
def Xw (α:Type)(a b c:Int)(k1:Nat->Nat->Int->Int->Op α):Op α:=
 uV α a b c
 (fun d=>cK d
 (k1 0 0 0 8)
 (IQ α a b
 (fun e g=>k1 e g c 0)))
def fZ:qn:=sld Xw
def Rq (v:qn)(α:Type)(k:RT α):Int->Int->Int->Op α:=fun a b c=>v α a b c (fun d e g h=>bF k d e g h)
def apg:ag:=(ag.put (.m [⟨Ds,Mo uV⟩]) [1,0] (emb af5))
theorem as7:ak Pg 232 29 ⟨cT,Rq fZ⟩:=iZ ek3 (ah Tryz.func232 (by kernel_rfl)) av9 apg ((an _ _).trans (aA _)) (aM (by kernel_rfl) (aD af5) ⟨ajv,trivial⟩) fun _ _=>by kernel_rfl
def Wl:SG:=[(8,iT),(14,iT),(20,iT),(22,iT)]
def aDw:TG:=[tT 0 [1,2],tT 1 [2,5],tT 2 [4],tT 3 [18],tT 4 [4],tT 5 [4]]
def Hy:aq:=aw Pg Tryz.f115 aDw aC
def Ce:PT St:=pS [sl 1 (aV false [(cD (dFn 116 []))]),sP 2] [au 2 [xI,xI]]
def az5 {β:Type}(g:St->β):Int->Int->β:=Ce.unc g
def aiE:ag:=ag.sub [1,0,0,0] (emb Hy)
def E4 (α:Type)(a b:Int)(k1:Bool->Op α):Op α:=
 Di α a
 (fun c=>cK (!c)
 (k1 true)
 (Di α b
 (fun d=>k1 (!d))))
def wr:bI:=sld E4
def Oj (v:bI)(α:Type)(K:KT α):Int->Int->Op α:=fun a b=>v α a b (fun c=>C4 (K .normal) c a b)
theorem alT:∀ (α:Type) (K:KT α),Oj wr α K=Ce.unc fun σ=>az Pg Ek3 Wl aiE K σ:=aZ (fun α K=>by kernel_rfl)
def Wz (α:Type)(a b:Int)(k1:Int->Op α):Op α:=
 wr α a b
 (fun c=>cK c
 (k1 2)
 (cK (decide (b < a))
 (k1 10)
 (k1 0)))
def EG:bz:=sld Wz
def Ws:PT (List DV):=pA [pV true [(dI .i64),(dI .i64)],pV false [(dFn 116 [])]]
def S0 (v:bz)(α:Type)(k:RT α):Int->Int->Op α:=fun a b=>v α a b (fun c=>aR k c)
def asi:ag:=(ag.put (.m [⟨Ce,Oj wr⟩]) [1,0,0] (emb Hy))
theorem atO:ak Pg 115 24 ⟨Ws,S0 EG⟩:=iZ ek3 (ah Tryz.func115 (by kernel_rfl)) Wl asi ((an _ _).trans (aA _)) (aM (by kernel_rfl) (aD Hy) ⟨alT,trivial⟩) fun _ _=>by kernel_rfl
def Bj:PT St:=pS [sl 1 (aV false [(cD (dFn 117 []))]),sP 2] [au 2 [xI,xI]]
def aAS {β:Type}(g:St->β):Int->Int->β:=Bj.unc g
def ad1:ag:=ag.sub [1,0,0,0] (emb Hy)
def FC (α:Type)(a b:Int)(k1:Bool->Op α):Op α:=
 DU α a
 (fun c=>cK (!c)
 (k1 true)
 (DU α b
 (fun d=>k1 (!d))))
def sW:bI:=sld FC
def Mv (v:bI)(α:Type)(K:KT α):Int->Int->Op α:=fun a b=>v α a b (fun c=>C4 (K .normal) c a b)
theorem alz:∀ (α:Type) (K:KT α),Mv sW α K=Bj.unc fun σ=>az Pg Ek3 Wl ad1 K σ:=aZ (fun α K=>by kernel_rfl)
def Wa (α:Type)(a b:Int)(k1:Int->Op α):Op α:=
 sW α a b
 (fun c=>cK c
 (k1 2)
 (cK (decide (b < a))
 (k1 10)
 (k1 0)))
def EM:bz:=sld Wa
def Vg:PT (List DV):=pA [pV true [(dI .i64),(dI .i64)],pV false [(dFn 117 [])]]
def Xz (v:bz)(α:Type)(k:RT α):Int->Int->Op α:=fun a b=>v α a b (fun c=>aR k c)
def aou:ag:=(ag.put (.m [⟨Bj,Mv sW⟩]) [1,0,0] (emb Hy))
theorem auF:ak Pg 115 24 ⟨Vg,Xz EM⟩:=iZ ek3 (ah Tryz.func115 (by kernel_rfl)) Wl aou ((an _ _).trans (aA _)) (aM (by kernel_rfl) (aD Hy) ⟨alz,trivial⟩) fun _ _=>by kernel_rfl
def ajG:SG:=[(4,iS 9),(9,iT),(14,iS 2),(21,iT),(24,iT),(28,iS 2),(34,iT),(37,iT),(41,iT),(46,iT),(52,iT),(54,iT)]
def aH8:TG:=[tT 0 [1],tT 1 [1,3],tT 2 [2],tT 3 [1,7],tT 4 [2],tT 5 [1,18],tT 6 [2],tT 7 [1,26],tT 8 [2],tT 9 [1,31],tT 10 [2],tT 11 [1,39],tT 12 [2],tT 13 [50],tT 14 [2],tT 15 [2]]
def S3:aq:=aw Pg Tryz.f114 aH8 aC
def DX:PT St:=pS [sP 1,sl 3 (aV false [(cD dB)])] [au 1 (xs 9)]
def aDM {β:Type}(g:St->β):Bool->I9 β:=DX.unc g
def ald:PT St:=pS [sP 1,sl 7 (aV false [(cD dB)])] [au 1 (xs 9)]
def alf {β:Type}(g:St->β):Bool->I9 β:=ald.unc g
def BD:PT St:=pS [sP 1,sl 31 (aV false [(cD dB)])] [au 1 (xs 9)]
def aHx {β:Type}(g:St->β):Bool->I9 β:=BD.unc g
def alb:PT St:=pS [sP 1,sl 39 (aV false [(cD dB)])] [au 1 (xs 9)]
def al7 {β:Type}(g:St->β):Bool->I9 β:=alb.unc g
def aaj:ag:=ag.sub [1,0,0,1,1,1,1,1,1,1,1,1,1,0] (emb S3)
def E8 (α:Type)(a b:Int)(k1:Bool->Op α):Op α:=
 oq α a 0 10000
 (fun c=>cK (!c)
 (k1 true)
 (oq α b 0 10000
 (fun d=>k1 (!d))))
def pj:bI:=sld E8
def La (v:bI)(α:Type)(K:KT α):Bool->I9 (Op α):=fun m c d e g h i j a b=>v α a b (fun l=>al7 (K .normal) l c d e g h i j a b)
theorem ah3:∀ (α:Type) (K:KT α),La pj α K=BD.unc fun σ=>az Pg Ek3 ajG aaj K σ:=aZ (fun α K=>by kernel_rfl)
def aau:ag:=ag.sub [1,0,0,1,1,0] (emb S3)
def FM (α:Type)(a b c:Int)(k1:Bool->Op α):Op α:=
 oq α a 5000 80000
 (fun d=>cK (!d)
 (k1 true)
 (yF α b c 0 9999
 (fun e=>k1 (!e))))
def n8:ch:=sld FM
def MP (v:ch)(α:Type)(K:KT α):Bool->I9 (Op α):=fun m d e a b c g h i j=>v α a b c (fun l=>alf (K .normal) l d e a b c g h i j)
theorem als:∀ (α:Type) (K:KT α),MP n8 α K=DX.unc fun σ=>az Pg Ek3 ajG aau K σ:=aZ (fun α K=>by kernel_rfl)
def X1 (α:Type)(h i j a b c d e g:Int)(k1:Int->Op α):Op α:=
 D9 α h i
 (fun l=>cK (!l)
 (k1 11)
 (n8 α j a b
 (fun m=>cK m
 (k1 2)
 (cK (decide (b < a))
 (k1 10)
 (yF α c d 1000 200000
 (fun o=>cK (!o)
 (k1 2)
 (cK (decide (d < c))
 (k1 10)
 (pj α e g
 (fun p=>cK p
 (k1 2)
 (cK (decide (g < e))
 (k1 24)
 (k1 0)))))))))))
def Co:H2:=sld X1
def Q9 (v:H2)(α:Type)(k:RT α):I9 (Op α):=fun a b c d e g h i j=>v α a b c d e g h i j (fun l=>aR k l)
def aoO:ag:=(ag.put (.m [⟨DX,MP n8⟩]) [1,0,0,1,1] (ag.put (.m [⟨BD,La pj⟩]) [1,0,0,1,1,1,1,1,1,1,1,1,1] (emb S3)))
theorem apv:ak Pg 114 56 ⟨kU,Q9 Co⟩:=iZ ek3 (ah Tryz.func114 (by kernel_rfl)) ajG aoO ((an _ _).trans ((an _ _).trans (aA _))) (aM (by kernel_rfl) (aM (by kernel_rfl) (aD S3) ⟨ah3,trivial⟩) ⟨als,trivial⟩) fun _ _=>by kernel_rfl
def Kw:SG:=[(19,iS 3),(20,iS 3),(22,iT),(27,iT),(33,iT),(45,iS 3),(46,iS 3),(48,iT),(53,iT),(59,iT),(61,iT),(64,iT),(69,iT),(74,iT)]
def aIS:TG:=[tT 0 [0,1],tT 1 [0,1,14],(2,⟨[4,5],true,[⟨false,4,0,20004,5⟩],[]⟩),tT 3 [0,1,15,16,17],tT 4 [0,1,15,16,17,18],tT 5 [0,1,7,15,16,17],tT 6 [0,1,15,16,17,36],(7,⟨[4,5],true,[⟨false,4,0,20004,5⟩],[]⟩),tT 8 [0,1,15,16,17],tT 9 [0,1,40],(10,⟨[4,5],true,[⟨false,4,0,20004,5⟩],[]⟩),tT 11 [0,1,8],tT 12 [1,8,41,42,43],tT 13 [1,8,41,42,43,44],tT 14 [1,8,10,41,42,43],tT 15 [1,8,10,11,41,42,43],tT 16 [1,8,10,11,41,42,43,56],(17,⟨[4,5],true,[⟨false,4,0,20004,5⟩],[]⟩),tT 18 [1,8,41,42,43],tT 19 [1,8,41,42,43],(20,⟨[4,5],true,[⟨false,4,0,20004,5⟩],[]⟩)]
def aLo:TG:=[(4,⟨[0,1,15,16,17],true,[⟨false,15,0,20015,3⟩],[]⟩),(13,⟨[1,8,41,42,43],true,[⟨false,8,0,20008,5⟩,⟨false,41,0,20041,3⟩],[]⟩)]
def Z8:aq:=aw Pg Tryz.f39 aIS aLo
def sM:OT:=tdC (ag.sub [1,1,0,1,0] (emb Z8))
def sK:OT:=tdC (ag.sub [1,1,1,1,1,0,1,0] (emb Z8))
def IC:PT St:=pS [sl 0 (aV false [(cD dL)]),sI 1,sl 15 (aV false [(cD dL)]),sI 16,sI 17] []
def I0 {β:Type}(g:St->β):ae->Int->ae->Int->Int->β:=IC.unc g
def aox:PT St:=pS [sl 4 (aV false [(ej 20004)]),sI 5] [ei 20004 5]
def ku {β:Type}(g:St->β):Int->ae->β:=aox.unc g
def asZ:PT St:=pS [sl 0 (aV false [(cD dL)]),sI 1,sl 15 (aV false [(cD dL)]),sI 16,sI 17,sl 18 (aV false [(cD dB)])] []
def AA {β:Type}(g:St->β):ae->Int->ae->Int->Int->Bool->β:=asZ.unc g
def Jl:PT St:=pS [sI 1,sl 8 (aV false [(ej 20008)]),sl 41 (aV false [(cD dL)]),sI 42,sI 43] [ei 20008 5]
def J2 {β:Type}(g:St->β):Int->ae->Int->Int->ae->β:=Jl.unc g
def apM:PT St:=pS [sI 1,sl 8 (aV false [(ej 20008)]),sl 41 (aV false [(cD dL)]),sI 42,sI 43,sl 44 (aV false [(cD dB)])] [ei 20008 5]
def z5 {β:Type}(g:St->β):Int->ae->Int->Int->Bool->ae->β:=apM.unc g
def wg:ag:=ag.sub [1,1,1,1,1,0,1,0,0] (emb Z8)
def tL (α:Type)(i:Int)(j:ae)(g c:Int)(e:ae)(kn:Int->ae->Op α)(k1:Op α)(k2:Int->Bool->ae->Op α):Op α:=
 cK (decide (c < g))
 (dG j c [.int .i64,.int .i64,.int .i64]
 (fun d h a=>nd α (w64 (a*i)) 1000
 (fun b=>cK (decide (1000000 < (w64 (a+b))))
 (k1)
 (gK (cy 5 40 e [[DC.v (.int .i64 d),DC.v (.int .i64 d),DC.v (.int .i64 (if (w64 (a - b)) > 0 then (w64 (a - b)) else 0)),DC.v (.int .i64 (w64 (a+b))),DC.v (.int .i64 h)]]) (kn (w64 (c+1)) (e++[[DC.v (.int .i64 d),DC.v (.int .i64 d),DC.v (.int .i64 (if (w64 (a - b)) > 0 then (w64 (a - b)) else 0)),DC.v (.int .i64 (w64 (a+b))),DC.v (.int .i64 h)]]))))))
 (k2 c (decide (c < g)) e)
def mj (α:Type)(a:Int)(b:ae)(c:Int)(k1:Op α)(k2:Int->Bool->ae->Op α):Nat->Int->ae->Op α
 | 0,_,_=>none
 | n+1,d,e=>tL α a b c d e (mj α a b c k1 k2 n) k1 k2
def Nx (α:Type)(a:Int)(b:ae)(c:Int)(k1:Op α)(k2:Int->Bool->ae->Op α)(d:Int)(e:ae):Op α:=mj α a b c k1 k2 aF d e
abbrev MO:Type 1:=(α:Type)->Int->ae->Int->(Op α)->(Int->Bool->ae->Op α)->Int->ae->Op α
def AB:MO:=sld Nx
def RG (v:MO)(α:Type)(K:KT α):Int->ae->Int->Int->ae->Op α:=fun a b c d e=>v α a b c (ku (K .ret) 8 ([]:ae)) (fun g h i=>z5 (K (.exit 2)) a b c g h i) d e
theorem ap6 (α:Type)(K:KT α)(Kn:SK α)(a:Int)(b:ae)(c d:Int)(e:ae):J2 (fun σ=>az Pg Ek3 Kw wg (bK (fun σ=>bq sK σ Kn) K) σ) a b c d e=tL α a b c d e (fun d e=>J2 Kn a b c d e) (ku (K .ret) 8 ([]:ae)) (fun g h i=>z5 (K (.exit 2)) a b c g h i):=by kernel_rfl
theorem aon (α:Type)(K:KT α):∀ (n:Nat) (a:Int) (b:ae) (c d:Int) (e:ae),mj α a b c (ku (K .ret) 8 ([]:ae)) (fun g h i=>z5 (K (.exit 2)) a b c g h i) n d e=J2 (aJ (az Pg Ek3 Kw wg) sK K n) a b c d e:=by
 intro n
 induction n with
 | zero=>intros;rfl
 | succ n ih=>intro a b c d e;exact (congrArg (fun kn=>tL α a b c d e kn (ku (K .ret) 8 ([]:ae)) (fun g h i=>z5 (K (.exit 2)) a b c g h i)) (funext fun d=>funext fun e=>ih a b c d e)).trans (ap6 α K (aJ (az Pg Ek3 Kw wg) sK K n) a b c d e).symm
theorem aoq:∀ (α:Type) (K:KT α),RG AB α K=Jl.unc fun σ=>aJ (az Pg Ek3 Kw wg) sK K aF σ:=aZ (fun α K=>funext fun a=>funext fun b=>funext fun c=>funext fun d=>funext fun e=>aon α K aF a b c d e)
def uM:ag:=ag.sub [1,1,0,1,0,0] (emb Z8)
def sQ (α:Type)(c:ae)(b a:Int)(kn:Int->Op α)(k1:Op α)(k2:Int->Bool->Op α):Op α:=
 cK (decide (a < b))
 (dG c a [.int .i64,.int .i64,.int .i64]
 (fun d e g=>rg α d
 (fun h=>cK (!h)
 (k1)
 (zk α e
 (fun i=>cK (!i)
 (k1)
 (CH α g
 (fun j=>cK (!j)
 (k1)
 (kn (w64 (a+1))))))))))
 (k2 a (decide (a < b)))
def qk (α:Type)(a:ae)(b:Int)(k1:Op α)(k2:Int->Bool->Op α):Nat->Int->Op α
 | 0,_=>none
 | n+1,c=>sQ α a b c (qk α a b k1 k2 n) k1 k2
def M5 (α:Type)(a:ae)(b:Int)(k1:Op α)(k2:Int->Bool->Op α)(c:Int):Op α:=qk α a b k1 k2 aF c
abbrev wz:Type 1:=(α:Type)->ae->Int->(Op α)->(Int->Bool->Op α)->Int->Op α
def Au:wz:=sld M5
def Yd (v:wz)(α:Type)(K:KT α):ae->Int->ae->Int->Int->Op α:=fun c d a b e=>v α a b (ku (K .ret) 2 ([]:ae)) (fun g h=>AA (K (.exit 0)) c d a b g h) e
theorem atN (α:Type)(K:KT α)(Kn:SK α)(d:ae)(e:Int)(a:ae)(b c:Int):I0 (fun σ=>az Pg Ek3 Kw uM (bK (fun σ=>bq sM σ Kn) K) σ) d e a b c=sQ α a b c (fun c=>I0 Kn d e a b c) (ku (K .ret) 2 ([]:ae)) (fun g h=>AA (K (.exit 0)) d e a b g h):=by kernel_rfl
theorem asa (α:Type)(K:KT α):∀ (n:Nat) (d:ae) (e:Int) (a:ae) (b c:Int),qk α a b (ku (K .ret) 2 ([]:ae)) (fun g h=>AA (K (.exit 0)) d e a b g h) n c=I0 (aJ (az Pg Ek3 Kw uM) sM K n) d e a b c:=by
 intro n
 induction n with
 | zero=>intros;rfl
 | succ n ih=>intro d e a b c;exact (congrArg (fun kn=>sQ α a b c kn (ku (K .ret) 2 ([]:ae)) (fun g h=>AA (K (.exit 0)) d e a b g h)) (funext fun c=>ih d e a b c)).trans (atN α K (aJ (az Pg Ek3 Kw uM) sM K n) d e a b c).symm
theorem anl:∀ (α:Type) (K:KT α),Yd Au α K=IC.unc fun σ=>aJ (az Pg Ek3 Kw uM) sM K aF σ:=aZ (fun α K=>funext fun a=>funext fun b=>funext fun c=>funext fun d=>funext fun e=>asa α K aF a b c d e)
abbrev ahN:Type 1:=(α:Type)->ae->Int->(ae->Int->Op α)->Op α
def afP (α:Type)(a:ae)(b:Int)(k1:ae->Int->Op α):Op α:=
 cK (decide (40 < ((List.length a:Nat):Int)))
 (k1 ([]:ae) 8)
 (Au α a ((List.length a:Nat):Int)
 (k1 ([]:ae) 2)
 (fun e g=>nD α b 0 1000
 (fun c=>cK (!c)
 (k1 ([]:ae) 2)
 (AB α b a ((List.length a:Nat):Int)
 (k1 ([]:ae) 8)
 (fun h i d=>k1 d 0) 0 ([]:ae)))) 0)
def MJ:ahN:=sld afP
def alq:PT (List DV):=pA [pV false [dL],vI]
def ah1 (v:ahN)(α:Type)(k:RT α):ae->Int->Op α:=fun a b=>v α a b (fun c d=>Dx k c d)
def awD:ag:=(ag.put (.m [⟨IC,Yd Au⟩]) [1,1,0,1,0] (ag.put (.m [⟨Jl,RG AB⟩]) [1,1,1,1,1,0,1,0] (emb Z8)))
theorem axK:ak Pg 39 80 ⟨alq,ah1 MJ⟩:=iZ ek3 (ah Tryz.func39 (by kernel_rfl)) Kw awD ((an _ _).trans ((an _ _).trans (aA _))) (aY (td:=sM) (by kernel_rfl) (aY (td:=sK) (by kernel_rfl) (aD Z8) ⟨aoq,trivial⟩) ⟨anl,trivial⟩) fun _ _=>by kernel_rfl
end
end Go.AM.K
