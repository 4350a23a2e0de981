/- Printed by KGen. -/
import Derived.Test.YtffcelhcekillaaGreatRb
namespace Go.AM.K
open Go.Proofs
set_option maxRecDepth 100000
set_option linter.unusedVariables false
noncomputable section
def aAc:TG:=[tT 0 [0,1],tT 1 [5,6],tT 2 [5,14],tT 3 [5],tT 4 [4]]
def aHv:aq:=aw Pg Tryz.f268 aAc aC
def S0 (α:Type)(b c:Int)(k1:Int->Op α):Op α:=
 yP α b c
 (fun a d=>cK (d != 0)
 (k1 (w64 (a+1)))
 (k1 a))
def D6:bB:=sld S0
def Zw (v:bB)(α:Type)(k:RT α):Int->Int->Op α:=fun a b=>v α a b (fun c=>aR k c)
theorem arn:ak Pg 268 18 ⟨bt,Zw D6⟩:=iP ek3 aHv (ag Tryz.func268 (by kernel_rfl)) aO fun _ _=>by kernel_rfl
def aAq:TG:=[tT 0 [1],tT 1 [2]]
def aFT:aq:=aw Pg Tryz.f252 aAq aC
def Zl (α:Type)(a b:Int)(k1:Int->Op α):Op α:=
 oS α (w64 ((w64 (a*a))+(w64 (b*b))))
 (fun c=>k1 c)
def nl:bB:=sld Zl
def YA (v:bB)(α:Type)(k:RT α):Int->Int->Int->Op α:=fun a b d=>v α a b (fun c=>aR k c)
theorem atX:ak Pg 252 15 ⟨cZ,YA nl⟩:=iP ek3 aFT (ag Tryz.func252 (by kernel_rfl)) aiZ fun _ _=>by kernel_rfl
def aFc:TG:=[tT 0 [0,1],tT 1 [1,6,7],tT 2 [6,7,22],tT 3 [4,5],tT 4 [4,5]]
def aHM:aq:=aw Pg Tryz.f247 aFc aC
def Y2 (α:Type)(d c:Int)(k1:Int->Bool->Op α):Op α:=
 yP α d c
 (fun b a=>cK (a != 0)
 (cK (decide ((w64 (c - a))<=a))
 (k1 (w64 (b+1)) true)
 (k1 b (a != 0)))
 (k1 b (a != 0)))
def mC:qW:=sld Y2
def Xt (v:qW)(α:Type)(k:RT α):Int->Int->Op α:=fun a b=>v α a b (fun c d=>qv k c d)
theorem asd:ak Pg 247 28 ⟨bt,Xt mC⟩:=iP ek3 aHM (ag Tryz.func247 (by kernel_rfl)) aO fun _ _=>by kernel_rfl
def awd:SG:=[(5,iT),(10,iT),(16,iT),(21,iS 3)]
def aGO:TG:=[tT 0 [1,2],tT 1 [1,2,19],tT 2 [2,3],tT 3 [2,3]]
def adX:aq:=aw Pg Tryz.f248 aGO aC
def CF:PT St:=pS [sP 1,sP 2] [au 1 (xs 3),au 2 (xs 3)]
def aBO {β:Type}(g:St->β):I6 β:=CF.unc g
def al5:PT St:=pS [sP 1,sP 2,sl 19 (aV false [(cD dB)])] [au 1 (xs 3),au 2 (xs 3)]
def ae2 {β:Type}(g:St->β):Bool->I6 β:=al5.unc g
def ajM:ah:=ah.sub [1,0,0] (emb adX)
def FY (α:Type)(a b c:Int)(k1:Bool->Op α):Op α:=
 oV α a
 (fun d=>cK (!d)
 (k1 true)
 (oV α b
 (fun e=>cK (!e)
 (k1 true)
 (cF α c 0 67108864
 (fun g=>k1 (!g))))))
def tX:cg:=sld FY
def M8 (v:cg)(α:Type)(K:KT α):I6 (Op α):=fun a b c d e g=>v α a b c (fun h=>ae2 (K .normal) h a b c d e g)
theorem afD:∀ (α:Type) (K:KT α),M8 tX α K=CF.unc fun σ=>az Pg Ek3 awd ajM K σ:=aZ (fun α K=>by kernel_rfl)
def TB (α:Type)(a b c:Int)(k1:I4 (Op α)):Op α:=
 tX α a b c
 (fun d=>cK d
 (k1 0 0 0 8)
 (k1 a b c 0))
def dJ:kx:=sld TB
def Za (v:kx)(α:Type)(k:RT α):Int->Int->Int->Op α:=fun a b c=>v α a b c (fun d e g h=>bG k d e g h)
def ar6:ah:=(ah.put (.m [⟨CF,M8 tX⟩]) [1,0] (emb adX))
theorem atf:ak Pg 248 22 ⟨cZ,Za dJ⟩:=iZ ek3 (ag Tryz.func248 (by kernel_rfl)) awd ar6 ((am _ _).trans (aA _)) (aM (by kernel_rfl) (aD adX) ⟨afD,trivial⟩) fun _ _=>by kernel_rfl
def aJw:SG:=[(4,iS 2),(9,iS 2),(15,iT),(21,iT),(24,iT),(29,iT),(32,iT)]
def aJc:TG:=[tT 0 [1],tT 1 [1,18],tT 2 [2],tT 3 [34],tT 4 [2],tT 5 [2]]
def aIL:aq:=aw Pg Tryz.f98 aJc aC
abbrev adn:Type 1:=(α:Type)->Int->Int->Int->Int->Int->(Int->Op α)->Op α
def akv (α:Type)(a b c d e:Int)(k1:Int->Op α):Op α:=
 yt α a b 5000 80000
 (fun g=>cK (!g)
 (k1 2)
 (yt α c d 0 1000000
 (fun h=>cK (!h)
 (k1 2)
 (sj α e
 (fun i=>cK (!i)
 (k1 2)
 (cK (decide (b < a))
 (k1 10)
 (cK (decide (d < c))
 (k1 10)
 (k1 0))))))))
def Nv:adn:=sld akv
def ahg:PT (List DV):=pA [pV true [(dI .i64),(dI .i64),(dI .i64),(dI .i64),(dI .i64)]]
def ajR (v:adn)(α:Type)(k:RT α):I5 (Op α):=fun a b c d e=>v α a b c d e (fun g=>aR k g)
theorem awy:ak Pg 98 35 ⟨ahg,ajR Nv⟩:=iP ek3 aIL (ag Tryz.func98 (by kernel_rfl)) aJw fun _ _=>by kernel_rfl
def aIQ:SG:=[(4,iT),(9,iT),(14,iT),(19,iS 2),(25,iT),(28,iT),(31,iS 2),(36,iT),(39,iT),(42,iT),(47,iT),(52,iT),(54,iT)]
def aKE:TG:=[tT 0 [1],tT 1 [1,12],tT 2 [2],tT 3 [1,22],tT 4 [2],tT 5 [1,29],tT 6 [2],tT 7 [1,33],tT 8 [2],tT 9 [1,40],tT 10 [2],tT 11 [1,50],tT 12 [2],tT 13 [55],tT 14 [2],tT 15 [2]]
def aK2:aq:=aw Pg Tryz.f97 aKE aC
abbrev JZ:Type 1:=(α:Type)->Int->Int->Int->Int->Int->Int->Int->Int->Int->(Int->Op α)->Op α
def afG (α:Type)(h i j a b c d e g:Int)(k1:Int->Op α):Op α:=
 Jc α h
 (fun l=>cK (!l)
 (k1 11)
 (DZ α i
 (fun m=>cK (!m)
 (k1 11)
 (cF α j 5000 80000
 (fun o=>cK (!o)
 (k1 2)
 (xq α a b 0 9999
 (fun p=>cK (!p)
 (k1 2)
 (cK (decide (b < a))
 (k1 10)
 (xq α c d 1000 200000
 (fun q=>cK (!q)
 (k1 2)
 (cK (decide (d < c))
 (k1 10)
 (cF α e 0 10000
 (fun r=>cK (!r)
 (k1 2)
 (cF α g 0 10000
 (fun s=>cK (!s)
 (k1 2)
 (cK (decide (g < e))
 (k1 24)
 (k1 0)))))))))))))))))
def N6:JZ:=sld afG
def alf (v:JZ)(α:Type)(k:RT α):I9 (Op α):=fun a b c d e g h i j=>v α a b c d e g h i j (fun l=>aR k l)
theorem azi:ak Pg 97 56 ⟨kW,alf N6⟩:=iP ek3 aK2 (ag Tryz.func97 (by kernel_rfl)) aIQ fun _ _=>by kernel_rfl
def tV:SG:=[(14,[.sl]),(19,[.sl]),(25,[.sl]),(27,iS 3),(28,iS 3),(30,iT),(35,iT),(41,iT),(46,[.sl]),(49,[.sl]),(54,[.sl]),(60,[.sl]),(62,iS 2),(63,iS 2),(69,iT),(74,[.sl]),(80,[.sl]),(82,iS 3),(83,iS 3),(85,iT),(87,iT),(91,iT),(96,iT),(102,[.sl]),(106,[.sl]),(108,iS 2),(109,iS 2),(111,iT),(115,iT),(117,iT),(119,iS 2),(121,iT)]
def aLr:TG:=[tT 0 [1],tT 1 [1,16],(2,⟨[2,3],true,[⟨false,2,0,20002,5⟩],[]⟩),tT 3 [1,4],tT 4 [1,4,21],tT 6 [1,4,5],tT 7 [1,4,44],(8,⟨[2,3],true,[⟨false,2,0,20002,5⟩],[]⟩),tT 5 [1,4],tT 9 [1,51],(10,⟨[2,3],true,[⟨false,2,0,20002,5⟩],[]⟩),tT 11 [1,6],tT 12 [1,6,56],tT 14 [1,6,7],tT 15 [1,6,7,66],(16,⟨[2,3],true,[⟨false,2,0,20002,5⟩],[]⟩),tT 13 [1,6],tT 17 [1,71],(18,⟨[2,3],true,[⟨false,2,0,20002,5⟩],[]⟩),tT 19 [1,8],tT 20 [1,8,9],tT 21 [1,8,9,76],tT 23 [1,8,9,10],tT 24 [1,8,9,10,11],tT 25 [1,8,9,10,12],tT 26 [1,8,9,10,12,104],tT 27 [1,8,9,10,12],tT 28 [1,8,9,10,12,112],(29,⟨[2,3],true,[⟨false,2,0,20002,5⟩],[]⟩),tT 30 [1,8,9],tT 22 [1,8,9],(31,⟨[2,3],true,[⟨false,2,0,20002,5⟩],[]⟩)]
def aLp:TG:=[(4,⟨[1,4],true,[⟨true,1,0,30100,3⟩,⟨true,1,1,30101,2⟩,⟨true,1,3,30103,9⟩],[]⟩),(12,⟨[1,6],true,[⟨true,1,0,30100,3⟩,⟨true,1,1,30101,2⟩,⟨true,1,3,30103,9⟩],[]⟩),(21,⟨[1,8,9],true,[⟨false,8,0,20008,5⟩,⟨true,1,0,30100,3⟩,⟨true,1,1,30101,2⟩,⟨true,1,3,30103,9⟩],[]⟩)]
def Jh:aq:=aw Pg Tryz.f33 aLr aLp
def tA:OT:=tdC (ah.sub [1,1,0,1,0] (emb Jh))
def sL:OT:=tdC (ah.sub [1,1,1,1,0,1,0] (emb Jh))
def wZ:OT:=tdC (ah.sub [1,1,1,1,1,1,1,0,1,0] (emb Jh))
def Jq:PT St:=pS [sP 1,sI 4] [au 1 [(cD dL),(cD dL),xI,(cD dL),xI,xI]]
def KW {β:Type}(g:St->β):Int->ae->ae->Int->ae->Int->Int->β:=Jq.unc g
def aoT:PT St:=pS [sl 2 (aV false [(dG 20002)]),sI 3] [dE 20002 5]
def db {β:Type}(g:St->β):Int->ae->β:=aoT.unc g
def auv:PT St:=pS [sP 1,sI 4,sl 21 (aV false [(cD dB)])] [au 1 [(cD dL),(cD dL),xI,(cD dL),xI,xI]]
def An {β:Type}(g:St->β):Int->Bool->ae->ae->Int->ae->Int->Int->β:=auv.unc g
def Km:PT St:=pS [sP 1,sI 6] [au 1 [(cD dL),(cD dL),xI,(cD dL),xI,xI]]
def I2 {β:Type}(g:St->β):Int->ae->ae->Int->ae->Int->Int->β:=Km.unc g
def aou:PT St:=pS [sP 1,sI 6,sl 56 (aV false [(cD dB)])] [au 1 [(cD dL),(cD dL),xI,(cD dL),xI,xI]]
def AN {β:Type}(g:St->β):Int->Bool->ae->ae->Int->ae->Int->Int->β:=aou.unc g
def zS:PT St:=pS [sP 1,sl 8 (aV false [(dG 20008)]),sI 9,sP 10,sP 12] [au 1 [(cD dL),(cD dL),xI,(cD dL),xI,xI],dE 20008 5,au 10 (xs 3),au 12 [xI,xI]]
def ark {β:Type}(g:St->β):Int->ae->ae->Int->ae->Int->Int->ae->I5 β:=zS.unc g
def asU:PT St:=pS [sP 1,sl 8 (aV false [(dG 20008)]),sI 9,sP 10,sP 12,sl 104 (aV false [(cD dB)])] [au 1 [(cD dL),(cD dL),xI,(cD dL),xI,xI],dE 20008 5,au 10 (xs 3),au 12 [xI,xI]]
def aoP {β:Type}(g:St->β):Int->Bool->ae->ae->Int->ae->Int->Int->ae->I5 β:=asU.unc g
def IR:PT St:=pS [sP 1,sl 8 (aV false [(dG 20008)]),sI 9] [au 1 [(cD dL),(cD dL),xI,(cD dL),xI,xI],dE 20008 5]
def Jj {β:Type}(g:St->β):Int->ae->ae->Int->ae->Int->Int->ae->β:=IR.unc g
def aty:PT St:=pS [sP 1,sl 8 (aV false [(dG 20008)]),sI 9,sl 76 (aV false [(cD dB)])] [au 1 [(cD dL),(cD dL),xI,(cD dL),xI,xI],dE 20008 5]
def zK {β:Type}(g:St->β):Int->Bool->ae->ae->Int->ae->Int->Int->ae->β:=aty.unc g
def acO:PT (List RV):=pRs [pR false [rO 5],wI]
def BS {β:Type}(g:List RV->β):ae->Int->β:=acO.unc g
def ali:ah:=ah.sub [1,1,1,1,1,1,1,0,1,0,0,1,0,0,1,1,1,0] (emb Jh)
abbrev NQ:Type 1:=(α:Type)->Int->ae->(Int->Int->Op α)->(Bool->Op α)->Op α
def M6 (α:Type)(a:Int)(b:ae)(k1:Int->Int->Op α)(k2:Bool->Op α):Op α:=
 cK (decide (a < ((List.length b:Nat):Int)))
 (dT b a [.int .i64,.int .i64]
 (fun c d=>k1 c d))
 (k2 (decide (a < ((List.length b:Nat):Int))))
def tB:NQ:=sld M6
def Lc (v:NQ)(α:Type)(K:KT α):Int->ae->ae->Int->ae->Int->Int->ae->I5 (Op α):=fun a d b e g h i j l m o p q=>v α a b (fun c r=>ark (K .normal) a d b e g h i j l m o c r) (fun c=>aoP (K .normal) a c d b e g h i j l m o p q)
theorem amL:∀ (α:Type) (K:KT α),Lc tB α K=zS.unc fun σ=>az Pg Ek3 tV ali K σ:=aZ (fun α K=>by kernel_rfl)
def xa:ah:=ah.sub [1,1,1,1,1,1,1,0,1,0,0] (ah.put (.m [⟨zS,Lc tB⟩]) [1,1,1,1,1,1,1,0,1,0,0,1,0,0,1,1,1] (emb Jh))
def w8 (α:Type)(h l:ae)(m c:Int)(e:ae)(kn:Int->ae->Op α)(k1:Op α)(k2:Int->Bool->ae->Op α):Op α:=
 cK (decide (c < ((List.length h:Nat):Int)))
 (dT h c [.int .i64,.int .i64,.int .i64]
 (fun a g b=>cn α (w64 (b*m)) 1000
 (fun d=>tB α c l
 (fun j i=>cK (decide (1000000 < i))
 (k1)
 (gK (dH 5 40 e [[DC.v (.int .i64 a),DC.v (.int .i64 a),DC.v (.int .i64 j),DC.v (.int .i64 i),DC.v (.int .i64 g)]]) (kn (w64 (c+1)) (e++[[DC.v (.int .i64 a),DC.v (.int .i64 a),DC.v (.int .i64 j),DC.v (.int .i64 i),DC.v (.int .i64 g)]]))))
 (fun o=>cK (decide (1000000 < (w64 (b+d))))
 (k1)
 (gK (dH 5 40 e [[DC.v (.int .i64 a),DC.v (.int .i64 a),DC.v (.int .i64 (if (w64 (b - d)) > 0 then (w64 (b - d)) else 0)),DC.v (.int .i64 (w64 (b+d))),DC.v (.int .i64 g)]]) (kn (w64 (c+1)) (e++[[DC.v (.int .i64 a),DC.v (.int .i64 a),DC.v (.int .i64 (if (w64 (b - d)) > 0 then (w64 (b - d)) else 0)),DC.v (.int .i64 (w64 (b+d))),DC.v (.int .i64 g)]])))))))
 (k2 c (decide (c < ((List.length h:Nat):Int))) e)
def j5 (α:Type)(a b:ae)(c:Int)(k1:Op α)(k2:Int->Bool->ae->Op α):Nat->Int->ae->Op α
 | 0,_,_=>none
 | n+1,d,e=>w8 α a b c d e (j5 α a b c k1 k2 n) k1 k2
def Oi (α:Type)(a b:ae)(c:Int)(k1:Op α)(k2:Int->Bool->ae->Op α)(d:Int)(e:ae):Op α:=j5 α a b c k1 k2 aE d e
abbrev Lm:Type 1:=(α:Type)->ae->ae->Int->(Op α)->(Int->Bool->ae->Op α)->Int->ae->Op α
def AZ:Lm:=sld Oi
def S9 (v:Lm)(α:Type)(K:KT α):Int->ae->ae->Int->ae->Int->Int->ae->Op α:=fun d a b c e g h i=>v α a b c (db (K .ret) 8 ([]:ae)) (fun j l m=>zK (K (.exit 4)) j l a b c e g h m) d i
theorem apm (α:Type)(K:KT α)(Kn:SK α)(a:Int)(b c:ae)(d:Int)(g:ae)(h i:Int)(e:ae):Jj (fun σ=>az Pg Ek3 tV xa (bI (fun σ=>br wZ σ Kn) K) σ) a b c d g h i e=w8 α b c d a e (fun a e=>Jj Kn a b c d g h i e) (db (K .ret) 8 ([]:ae)) (fun j l m=>zK (K (.exit 4)) j l b c d g h i m):=by kernel_rfl
theorem atv (α:Type)(K:KT α):∀ (n:Nat) (d:Int) (a b:ae) (c:Int) (g:ae) (h i:Int) (e:ae),j5 α a b c (db (K .ret) 8 ([]:ae)) (fun j l m=>zK (K (.exit 4)) j l a b c g h i m) n d e=Jj (aJ (az Pg Ek3 tV xa) wZ K n) d a b c g h i e:=by
 intro n
 induction n with
 | zero=>intros;rfl
 | succ n ih=>intro d a b c g h i e;exact (congrArg (fun kn=>w8 α a b c d e kn (db (K .ret) 8 ([]:ae)) (fun j l m=>zK (K (.exit 4)) j l a b c g h i m)) (funext fun d=>funext fun e=>ih d a b c g h i e)).trans (apm α K (aJ (az Pg Ek3 tV xa) wZ K n) d a b c g h i e).symm
theorem arv:∀ (α:Type) (K:KT α),S9 AZ α K=IR.unc fun σ=>aJ (az Pg Ek3 tV xa) wZ K aE σ:=aZ (fun α K=>funext fun a=>funext fun b=>funext fun c=>funext fun d=>funext fun e=>funext fun g=>funext fun h=>funext fun i=>atv α K aE a b c d e g h i)
def uD:ah:=ah.sub [1,1,1,1,0,1,0,0] (emb Jh)
def sS (α:Type)(b:ae)(a:Int)(kn:Int->Op α)(k1:Int->Op α)(k2:Int->Bool->Op α):Op α:=
 cK (decide (a < ((List.length b:Nat):Int)))
 (dT b a [.int .i64,.int .i64]
 (fun d e=>Lg α d e 0 1000000
 (fun c=>cK (c != 0)
 (k1 c)
 (kn (w64 (a+1))))))
 (k2 a (decide (a < ((List.length b:Nat):Int))))
def q7 (α:Type)(a:ae)(k1:Int->Op α)(k2:Int->Bool->Op α):Nat->Int->Op α
 | 0,_=>none
 | n+1,b=>sS α a b (q7 α a k1 k2 n) k1 k2
def Om (α:Type)(a:ae)(k1:Int->Op α)(k2:Int->Bool->Op α)(b:Int):Op α:=q7 α a k1 k2 aE b
abbrev Nh:Type 1:=(α:Type)->ae->(Int->Op α)->(Int->Bool->Op α)->Int->Op α
def A5:Nh:=sld Om
def W3 (v:Nh)(α:Type)(K:KT α):Int->ae->ae->Int->ae->Int->Int->Op α:=fun c d b e g h i=>v α b (fun a=>db (K .ret) a ([]:ae)) (fun a j=>AN (K (.exit 2)) a j d b e g h i) c
theorem apX (α:Type)(K:KT α)(Kn:SK α)(a:Int)(c b:ae)(d:Int)(e:ae)(g h:Int):I2 (fun σ=>az Pg Ek3 tV uD (bI (fun σ=>br sL σ Kn) K) σ) a c b d e g h=sS α b a (fun a=>I2 Kn a c b d e g h) (fun i=>db (K .ret) i ([]:ae)) (fun i j=>AN (K (.exit 2)) i j c b d e g h):=by kernel_rfl
theorem aoC (α:Type)(K:KT α):∀ (n:Nat) (b:Int) (d a:ae) (e:Int) (g:ae) (h i:Int),q7 α a (fun c=>db (K .ret) c ([]:ae)) (fun c j=>AN (K (.exit 2)) c j d a e g h i) n b=I2 (aJ (az Pg Ek3 tV uD) sL K n) b d a e g h i:=by
 intro n
 induction n with
 | zero=>intros;rfl
 | succ n ih=>intro b d a e g h i;exact (congrArg (fun kn=>sS α a b kn (fun c=>db (K .ret) c ([]:ae)) (fun c j=>AN (K (.exit 2)) c j d a e g h i)) (funext fun b=>ih b d a e g h i)).trans (apX α K (aJ (az Pg Ek3 tV uD) sL K n) b d a e g h i).symm
theorem aui:∀ (α:Type) (K:KT α),W3 A5 α K=Km.unc fun σ=>aJ (az Pg Ek3 tV uD) sL K aE σ:=aZ (fun α K=>funext fun a=>funext fun b=>funext fun c=>funext fun d=>funext fun e=>funext fun g=>funext fun h=>aoC α K aE a b c d e g h)
def vO:ah:=ah.sub [1,1,0,1,0,0] (emb Jh)
def va (α:Type)(b:ae)(a:Int)(kn:Int->Op α)(k1:Op α)(k2:Int->Bool->Op α):Op α:=
 cK (decide (a < ((List.length b:Nat):Int)))
 (dT b a [.int .i64,.int .i64,.int .i64]
 (fun c d e=>cF α c 5000 80000
 (fun g=>cK (!g)
 (k1)
 (cF α d 0 80000
 (fun h=>cK (!h)
 (k1)
 (cF α e 0 1000000
 (fun i=>cK (!i)
 (k1)
 (kn (w64 (a+1))))))))))
 (k2 a (decide (a < ((List.length b:Nat):Int))))
def qf (α:Type)(a:ae)(k1:Op α)(k2:Int->Bool->Op α):Nat->Int->Op α
 | 0,_=>none
 | n+1,b=>va α a b (qf α a k1 k2 n) k1 k2
def MD (α:Type)(a:ae)(k1:Op α)(k2:Int->Bool->Op α)(b:Int):Op α:=qf α a k1 k2 aE b
def z7:Am:=sld MD
def RD (v:Am)(α:Type)(K:KT α):Int->ae->ae->Int->ae->Int->Int->Op α:=fun b a c d e g h=>v α a (db (K .ret) 2 ([]:ae)) (fun i j=>An (K (.exit 0)) i j a c d e g h) b
theorem aoM (α:Type)(K:KT α)(Kn:SK α)(a:Int)(b c:ae)(d:Int)(e:ae)(g h:Int):KW (fun σ=>az Pg Ek3 tV vO (bI (fun σ=>br tA σ Kn) K) σ) a b c d e g h=va α b a (fun a=>KW Kn a b c d e g h) (db (K .ret) 2 ([]:ae)) (fun i j=>An (K (.exit 0)) i j b c d e g h):=by kernel_rfl
theorem at7 (α:Type)(K:KT α):∀ (n:Nat) (b:Int) (a c:ae) (d:Int) (e:ae) (g h:Int),qf α a (db (K .ret) 2 ([]:ae)) (fun i j=>An (K (.exit 0)) i j a c d e g h) n b=KW (aJ (az Pg Ek3 tV vO) tA K n) b a c d e g h:=by
 intro n
 induction n with
 | zero=>intros;rfl
 | succ n ih=>intro b a c d e g h;exact (congrArg (fun kn=>va α a b kn (db (K .ret) 2 ([]:ae)) (fun i j=>An (K (.exit 0)) i j a c d e g h)) (funext fun b=>ih b a c d e g h)).trans (aoM α K (aJ (az Pg Ek3 tV vO) tA K n) b a c d e g h).symm
theorem au6:∀ (α:Type) (K:KT α),RD z7 α K=Jq.unc fun σ=>aJ (az Pg Ek3 tV vO) tA K aE σ:=aZ (fun α K=>funext fun a=>funext fun b=>funext fun c=>funext fun d=>funext fun e=>funext fun g=>funext fun h=>at7 α K aE a b c d e g h)
abbrev It:Type 1:=(α:Type)->ae->ae->Int->(ae->Int->Op α)->Op α
def afd (α:Type)(a b:ae)(c:Int)(k1:ae->Int->Op α):Op α:=
 cK (decide (40 < ((List.length a:Nat):Int)))
 (k1 ([]:ae) 8)
 (z7 α a
 (k1 ([]:ae) 2)
 (fun h i=>cK (decide (((List.length a:Nat):Int) < ((List.length b:Nat):Int)))
 (k1 ([]:ae) 12)
 (A5 α b
 (fun d=>k1 ([]:ae) d)
 (fun j l=>cF α c 0 1000
 (fun e=>cK (!e)
 (k1 ([]:ae) 2)
 (AZ α a b c
 (k1 ([]:ae) 8)
 (fun m o g=>k1 g 0) 0 ([]:ae)))) 0)) 0)
def Gc:It:=sld afd
def aja (v:It)(α:Type)(k:RT α):ae->ae->Int->ae->Int->Int->Op α:=fun a b c g h i=>v α a b c (fun d e=>BS k d e)
def azA:ah:=(ah.put (.m [⟨Jq,RD z7⟩]) [1,1,0,1,0] (ah.put (.m [⟨Km,W3 A5⟩]) [1,1,1,1,0,1,0] (ah.put (.m [⟨IR,S9 AZ⟩]) [1,1,1,1,1,1,1,0,1,0] (ah.put (.m [⟨zS,Lc tB⟩]) [1,1,1,1,1,1,1,0,1,0,0,1,0,0,1,1,1] (emb Jh)))))
theorem ayQ:ak Pg 33 126 ⟨eN,aja Gc⟩:=iZ ek3 (ag Tryz.func33 (by kernel_rfl)) tV azA ((am _ _).trans ((am _ _).trans ((am _ _).trans ((am _ _).trans (aA _))))) (aW (td:=tA) (by kernel_rfl) (aW (td:=sL) (by kernel_rfl) (aW (td:=wZ) (by kernel_rfl) (aM (by kernel_rfl) (aD Jh) ⟨amL,trivial⟩) ⟨arv,trivial⟩) ⟨aui,trivial⟩) ⟨au6,trivial⟩) fun _ _=>by kernel_rfl
def aAP:SG:=[(9,iS 4),(10,iS 4),(15,iS 2),(18,iS 2),(20,iS 2),(25,iS 8),(27,iS 2),(30,iS 2),(33,iS 2),(35,iS 2),(40,iS 8),(42,iS 2)]
def aHg:TG:=[tT 0 [1,2,4],tT 1 [1,2,4,6],tT 2 [2,4,6,13],tT 3 [2,4,6,7],tT 4 [2,4,6],tT 5 [4,5],tT 6 [2,4,6,8],tT 7 [2,4,6],tT 8 [4,5]]
def aBJ:aq:=aw Pg Tryz.f120 aHg aC
def aae:PT (List RV):=pRs [pR true [rD (dI .i64),rD (dI .i64),rD (dI .i64),rD (dI .i64),rD (dI .i64),rD (dI .i64),rD (dI .i64),rD (dI .i64)],pR false [rD dB]]
def aam {β:Type}(g:List RV->β):Int->Int->Int->Int->Int->Int->Int->Int->Bool->β:=aae.unc g
abbrev YQ:Type 1:=(α:Type)->Int->Int->Int->Int->Int->(I4 (Bool->Op α))->Op α
def UL (α:Type)(a b c d e:Int)(k1:I4 (Bool->Op α)):Op α:=
 cK (e == 1)
 (yg α a b
 (fun g h=>oX α a b
 (fun i=>k1 g d h c i)))
 (yg α c d
 (fun j l=>oX α c d
 (fun m=>k1 b j a l m)))
def mB:YQ:=sld UL
def S1:PT (List DV):=pA [pV true [(dI .i64),(dI .i64),(dI .i64),(dI .i64)],vI]
def XL (v:YQ)(α:Type)(k:RT α):I5 (Op α):=fun a b c d e=>v α a b c d e (fun g h i j l=>aam k a g c h i b j d l)
theorem arS:ak Pg 120 44 ⟨S1,XL mB⟩:=iP ek3 aBJ (ag Tryz.func120 (by kernel_rfl)) aAP fun _ _=>by kernel_rfl
def aAb:TG:=[tT 0 [0],tT 1 [3],tT 2 [3,4],tT 3 [4,5],tT 4 [4,6],tT 5 [6,23,24],tT 6 [6,23,24,25],tT 7 [6,23,24],tT 8 [6,23,24],tT 9 [2]]
def aIf:TG:=[tT 6 [6,23,24]]
def Td:aq:=aw Pg Tryz.f256 aAb aIf
def oT:OT:=tdC (ah.sub [1,1,1,1,1,0,1,0] (emb Td))
def Bq:PT St:=pS [sI 6,sI 23,sI 24] []
def DU {β:Type}(g:St->β):Int->Int->Int->β:=Bq.unc g
def ai1:PT St:=pS [sI 6,sI 23,sI 24,sl 25 (aV false [(cD dB)])] []
def we {β:Type}(g:St->β):Int->Int->Int->Bool->β:=ai1.unc g
def qC:ah:=ah.sub [1,1,1,1,1,0,1,0,0] (emb Td)
def pI (α:Type)(c b a:Int)(kn:Int->Int->Op α)(k1:Int->Int->Bool->Op α):Op α:=
 cK (decide (a < c))
 (cG α (w64 (b*b)) 1073741824
 (fun d=>kn d (w64 (a+1))))
 (k1 b a (decide (a < c)))
def lF (α:Type)(a:Int)(k1:Int->Int->Bool->Op α):Nat->Int->Int->Op α
 | 0,_,_=>none
 | n+1,b,c=>pI α a b c (lF α a k1 n) k1
def GJ (α:Type)(a:Int)(k1:Int->Int->Bool->Op α)(b c:Int):Op α:=lF α a k1 aE b c
def uM:gp:=sld GJ
def Ly (v:gp)(α:Type)(K:KT α):Int->Int->Int->Op α:=fun b a c=>v α a (fun d e g=>we (K (.exit 0)) d a e g) b c
theorem afq (α:Type)(K:KT α)(Kn:SK α)(a b c:Int):DU (fun σ=>az Pg Ek3 aO qC (bI (fun σ=>br oT σ Kn) K) σ) a b c=pI α b a c (fun a c=>DU Kn a b c) (fun d e g=>we (K (.exit 0)) d b e g):=by kernel_rfl
theorem aeL (α:Type)(K:KT α):∀ (n:Nat) (b a c:Int),lF α a (fun d e g=>we (K (.exit 0)) d a e g) n b c=DU (aJ (az Pg Ek3 aO qC) oT K n) b a c:=by
 intro n
 induction n with
 | zero=>intros;rfl
 | succ n ih=>intro b a c;exact (congrArg (fun kn=>pI α a b c kn (fun d e g=>we (K (.exit 0)) d a e g)) (funext fun b=>funext fun c=>ih b a c)).trans (afq α K (aJ (az Pg Ek3 aO qC) oT K n) b a c).symm
theorem aeA:∀ (α:Type) (K:KT α),Ly uM α K=Bq.unc fun σ=>aJ (az Pg Ek3 aO qC) oT K aE σ:=aZ (fun α K=>funext fun a=>funext fun b=>funext fun c=>aeL α K aE a b c)
def VG (α:Type)(b:Int)(k1:Int->Op α):Op α:=
 yh α (w64 (Int.tdiv (w64 ((w64 (256*b))*62831853)) 10000000))
 (fun a=>gK (decide (0<=a)) (cG α (w64 ((Int.fdiv (w64 (Int.tdiv (w64 ((w64 (256*b))*62831853)) 10000000)) (2 ^ (min (Int.toNat a) 64)))*(Int.fdiv (w64 (Int.tdiv (w64 ((w64 (256*b))*62831853)) 10000000)) (2 ^ (min (Int.toNat a) 64))))) 2147483648
 (fun c=>uM α a
 (fun d e g=>k1 d) (w64 ((w64 (1073741824 - (Int.fdiv (w64 (Int.tdiv (w64 ((w64 (256*b))*62831853)) 10000000)) (2 ^ (min (Int.toNat a) 64)))))+c)) 0)))
def xD:ce:=sld VG
def Q8 (v:ce)(α:Type)(k:RT α):Int->Op α:=fun a=>v α a (fun b=>aR k b)
def apz:ah:=(ah.put (.m [⟨Bq,Ly uM⟩]) [1,1,1,1,1,0,1,0] (emb Td))
theorem anQ:ak Pg 256 32 ⟨aU,Q8 xD⟩:=iZ ek3 (ag Tryz.func256 (by kernel_rfl)) aO apz ((am _ _).trans (aA _)) (aW (td:=oT) (by kernel_rfl) (aD Td) ⟨aeA,trivial⟩) fun _ _=>by kernel_rfl
def aCK:TG:=[tT 0 [0],tT 1 [3],tT 2 [3,4],tT 3 [4,5],tT 4 [4,6],tT 5 [6,31,32],tT 6 [6,31,32,33],tT 7 [6,31,32],tT 8 [6,31,32],tT 9 [2]]
def aHt:TG:=[tT 6 [6,31,32]]
def Xl:aq:=aw Pg Tryz.f255 aCK aHt
def p5:OT:=tdC (ah.sub [1,1,1,1,1,0,1,0] (emb Xl))
def Cl:PT St:=pS [sI 6,sI 31,sI 32] []
def Bk {β:Type}(g:St->β):Int->Int->Int->β:=Cl.unc g
def ahS:PT St:=pS [sI 6,sI 31,sI 32,sl 33 (aV false [(cD dB)])] []
def wg {β:Type}(g:St->β):Int->Int->Int->Bool->β:=ahS.unc g
def qd:ah:=ah.sub [1,1,1,1,1,0,1,0,0] (emb Xl)
def nS (α:Type)(c b a:Int)(kn:Int->Int->Op α)(k1:Int->Int->Bool->Op α):Op α:=
 cK (decide (a < c))
 (kn (w64 (Int.tdiv (w64 (b*b)) 1073741824)) (w64 (a+1)))
 (k1 b a (decide (a < c)))
def mh (α:Type)(a:Int)(k1:Int->Int->Bool->Op α):Nat->Int->Int->Op α
 | 0,_,_=>none
 | n+1,b,c=>nS α a b c (mh α a k1 n) k1
def Ht (α:Type)(a:Int)(k1:Int->Int->Bool->Op α)(b c:Int):Op α:=mh α a k1 aE b c
def sN:gp:=sld Ht
def Np (v:gp)(α:Type)(K:KT α):Int->Int->Int->Op α:=fun b a c=>v α a (fun d e g=>wg (K (.exit 0)) d a e g) b c
theorem alm (α:Type)(K:KT α)(Kn:SK α)(a b c:Int):Bk (fun σ=>az Pg Ek3 aO qd (bI (fun σ=>br p5 σ Kn) K) σ) a b c=nS α b a c (fun a c=>Bk Kn a b c) (fun d e g=>wg (K (.exit 0)) d b e g):=by kernel_rfl
theorem acb (α:Type)(K:KT α):∀ (n:Nat) (b a c:Int),mh α a (fun d e g=>wg (K (.exit 0)) d a e g) n b c=Bk (aJ (az Pg Ek3 aO qd) p5 K n) b a c:=by
 intro n
 induction n with
 | zero=>intros;rfl
 | succ n ih=>intro b a c;exact (congrArg (fun kn=>nS α a b c kn (fun d e g=>wg (K (.exit 0)) d a e g)) (funext fun b=>funext fun c=>ih b a c)).trans (alm α K (aJ (az Pg Ek3 aO qd) p5 K n) b a c).symm
theorem adl:∀ (α:Type) (K:KT α),Np sN α K=Cl.unc fun σ=>aJ (az Pg Ek3 aO qd) p5 K aE σ:=aZ (fun α K=>funext fun a=>funext fun b=>funext fun c=>acb α K aE a b c)
def Wp (α:Type)(d:Int)(k1:Int->Op α):Op α:=
 cG α (w64 ((w64 (256*d))*62831854)) 10000000
 (fun c=>yh α c
 (fun b=>gK (decide (0<=b)) (cG α c (w64 (1*2 ^ (min (Int.toNat b) 64)))
 (fun a=>cG α (w64 ((w64 (a*a))*a)) 6917529027641081856
 (fun e=>sN α b
 (fun g h i=>k1 g) (w64 ((w64 ((w64 (1073741824 - a))+(w64 (Int.tdiv (w64 (a*a)) 2147483648)))) - e)) 0)))))
def D8:ce:=sld Wp
def TN (v:ce)(α:Type)(k:RT α):Int->Op α:=fun a=>v α a (fun b=>aR k b)
def aqp:ah:=(ah.put (.m [⟨Cl,Np sN⟩]) [1,1,1,1,1,0,1,0] (emb Xl))
theorem amm:ak Pg 255 40 ⟨aU,TN D8⟩:=iZ ek3 (ag Tryz.func255 (by kernel_rfl)) aO aqp ((am _ _).trans (aA _)) (aW (td:=p5) (by kernel_rfl) (aD Xl) ⟨adl,trivial⟩) fun _ _=>by kernel_rfl
def aGv:SG:=[(7,iS 2),(8,iS 2),(10,iS 2),(14,iT),(19,iT)]
def az5:TG:=[tT 0 [2,3,4],tT 1 [4,5],tT 2 [4,5,6],tT 3 [4]]
def aG1:aq:=aw Pg Tryz.f285 az5 aC
def Sf (α:Type)(d e g h:Int)(k1:Int->Int->Op α):Op α:=
 yc α d e g h
 (fun b c=>jT α b c
 (fun i=>eG α i
 (fun a=>gK (a != 0) (gK (a != 0) (k1 (w64 (Int.tdiv (w64 (b*67108864)) a)) (w64 (Int.tdiv (w64 (c*67108864)) a)))))))
def Ds:fT:=sld Sf
def Xn (v:fT)(α:Type)(k:RT α):I4 (Op α):=fun a b c d=>v α a b c d (fun e g=>bv k e g)
theorem aqq:ak Pg 285 24 ⟨fW,Xn Ds⟩:=iP ek3 aG1 (ag Tryz.func285 (by kernel_rfl)) aGv fun _ _=>by kernel_rfl
def aCP:TG:=[tT 0 [0,1,2],tT 1 [0,1,2,20],tT 2 [0,1,2],tT 3 [0,1,2,24],tT 4 [0,1,2],tT 5 [0,1,2,27],tT 6 [6,7],tT 7 [0,1,2,8],tT 8 [0,1,2,8],tT 9 [0,1,2,8,9],tT 10 [0,1,2,8,9,10],tT 11 [1,2,8,9,10,11],tT 12 [2,8,9,10,11,12],tT 13 [2,8,9,10,11,12,13],tT 14 [2,8,9,10,11,13,14],tT 15 [2,8,9,10,11,13,14,15],tT 16 [2,8,9,10,11,13,14,15,16],tT 17 [2,8,9,10,11,13,14,15,16,78],tT 18 [2,8,9,10,11,13,14,15,16],tT 19 [2,8,9,10,11,13,14,15,16],tT 20 [2,8,9,10,11,13,14,15,16,85],tT 21 [2,8,9,10,14,15,17],tT 22 [2,8,9,10,14,15,17,18],tT 23 [2,8,9,10,14,15,16,17,18],tT 24 [2,8,9,10,14,15,16,17,18,113],tT 25 [2,8,9,10,14,15,16,17,18],tT 26 [2,8,9,10,14,15,16,17,18],tT 27 [2,8,9,10,14,15,16,17,18,120],tT 28 [6,7]]
def aIc:TG:=[tT 17 [2,8,9,10,11,13,14,15,16],tT 24 [2,8,9,10,14,15,16,17,18]]
def rk:aq:=aw Pg Tryz.f234 aCP aIc
def pN:OT:=tdC (ah.sub [1,1,1,1,1,1,1,1,1,1,1,1,1,1,0,0] (emb rk))
def o7:OT:=tdC (ah.sub [1,1,1,1,1,1,1,1,1,1,1,1,1,1,1,1,1,1,0,0] (emb rk))
def fI:PT St:=pS [sl 2 (aV false [(cD (dI .u64))]),sl 8 (aV false [(cD (dI .u64))]),sl 9 (aV false [(cD (dI .u64))]),sl 10 (aV false [(cD (dI .u64))]),sl 11 (aV false [(cD (dI .u64))]),sl 13 (aV false [(cD (dI .u64))]),sl 14 (aV false [(cD (dI .u64))]),sl 15 (aV false [(cD (dI .u64))]),sl 16 (aV false [(cD (dI .u64))])] []
def Eo {β:Type}(g:St->β):I9 β:=fI.unc g
def afP:PT St:=pS [sl 2 (aV false [(cD (dI .u64))]),sl 8 (aV false [(cD (dI .u64))]),sl 9 (aV false [(cD (dI .u64))]),sl 10 (aV false [(cD (dI .u64))]),sl 11 (aV false [(cD (dI .u64))]),sl 13 (aV false [(cD (dI .u64))]),sl 14 (aV false [(cD (dI .u64))]),sl 15 (aV false [(cD (dI .u64))]),sl 16 (aV false [(cD (dI .u64))]),sl 78 (aV false [(cD dB)])] []
def jw {β:Type}(g:St->β):Int->Int->Int->Int->Int->Int->Int->Int->Int->Bool->β:=afP.unc g
def adp:PT St:=pS [sl 2 (aV false [(cD (dI .u64))]),sl 8 (aV false [(cD (dI .u64))]),sl 9 (aV false [(cD (dI .u64))]),sl 10 (aV false [(cD (dI .u64))]),sl 11 (aV false [(cD (dI .u64))]),sl 13 (aV false [(cD (dI .u64))]),sl 14 (aV false [(cD (dI .u64))]),sl 15 (aV false [(cD (dI .u64))]),sl 16 (aV false [(cD (dI .u64))]),sl 85 (aV false [(cD dB)])] []
def oH {β:Type}(g:St->β):Int->Int->Int->Int->Int->Int->Int->Int->Int->Bool->β:=adp.unc g
def fQ:PT St:=pS [sl 2 (aV false [(cD (dI .u64))]),sl 8 (aV false [(cD (dI .u64))]),sl 9 (aV false [(cD (dI .u64))]),sl 10 (aV false [(cD (dI .u64))]),sl 14 (aV false [(cD (dI .u64))]),sl 15 (aV false [(cD (dI .u64))]),sl 16 (aV false [(cD (dI .u64))]),sl 17 (aV false [(cD (dI .u64))]),sl 18 (aV false [(cD (dI .u64))])] []
def BG {β:Type}(g:St->β):I9 β:=fQ.unc g
def ahj:PT St:=pS [sl 2 (aV false [(cD (dI .u64))]),sl 8 (aV false [(cD (dI .u64))]),sl 9 (aV false [(cD (dI .u64))]),sl 10 (aV false [(cD (dI .u64))]),sl 14 (aV false [(cD (dI .u64))]),sl 15 (aV false [(cD (dI .u64))]),sl 16 (aV false [(cD (dI .u64))]),sl 17 (aV false [(cD (dI .u64))]),sl 18 (aV false [(cD (dI .u64))]),sl 113 (aV false [(cD dB)])] []
def jq {β:Type}(g:St->β):Int->Int->Int->Int->Int->Int->Int->Int->Int->Bool->β:=ahj.unc g
def alQ:PT St:=pS [sl 2 (aV false [(cD (dI .u64))]),sl 8 (aV false [(cD (dI .u64))]),sl 9 (aV false [(cD (dI .u64))]),sl 10 (aV false [(cD (dI .u64))]),sl 14 (aV false [(cD (dI .u64))]),sl 15 (aV false [(cD (dI .u64))]),sl 16 (aV false [(cD (dI .u64))]),sl 17 (aV false [(cD (dI .u64))]),sl 18 (aV false [(cD (dI .u64))]),sl 120 (aV false [(cD dB)])] []
def pF {β:Type}(g:St->β):Int->Int->Int->Int->Int->Int->Int->Int->Int->Bool->β:=alQ.unc g
def ZR:ah:=ah.sub [1,1,1,1,1,1,1,1,1,1,1,1,1,1,1,1,1,1,0,0,0,0] (emb rk)
abbrev qZ:Type 1:=(α:Type)->Int->Int->Int->Int->(Bool->Op α)->(Bool->Op α)->Op α
def GL (α:Type)(b c d a:Int)(k1:Bool->Op α)(k2:Bool->Op α):Op α:=
 cK (decide (4294967296<=a))
 (k1 true)
 (cK (decide ((IntKind.wrap .u64 ((IntKind.wrap .u64 (4294967296*d))+c)) < (IntKind.wrap .u64 (a*b))))
 (k1 (decide ((IntKind.wrap .u64 ((IntKind.wrap .u64 (4294967296*d))+c)) < (IntKind.wrap .u64 (a*b)))))
 (k2 (decide ((IntKind.wrap .u64 ((IntKind.wrap .u64 (4294967296*d))+c)) < (IntKind.wrap .u64 (a*b))))))
def lA:qZ:=sld GL
def uk (v:qZ)(α:Type)(K:KT α):I9 (Op α):=fun g h i a b j c l d=>v α a b c d (fun e=>jq (K .normal) g h i a b j c l d e) (fun e=>jq (K (.exit 2)) g h i a b j c l d e)
theorem ag4:∀ (α:Type) (K:KT α),uk lA α K=fQ.unc fun σ=>az Pg Ek3 aO ZR K σ:=aZ (fun α K=>by kernel_rfl)
def qo:ah:=ah.sub [1,1,1,1,1,1,1,1,1,1,1,1,1,1,1,1,1,1,0,0,0] (ah.put (.m [⟨fQ,uk lA⟩]) [1,1,1,1,1,1,1,1,1,1,1,1,1,1,1,1,1,1,0,0,0] (emb rk))
def vX (α:Type)(b d e a c:Int)(kn:Int->Int->Op α)(k1:Int->Int->Bool->Op α)(k2:Int->Int->Bool->Op α):Op α:=
 lA α d e a c
 (fun h=>cK (decide (4294967296<=(IntKind.wrap .u64 (a+b))))
 (k1 (IntKind.wrap .u64 (a+b)) (IntKind.wrap .u64 (c - 1)) (decide (4294967296<=(IntKind.wrap .u64 (a+b)))))
 (kn (IntKind.wrap .u64 (a+b)) (IntKind.wrap .u64 (c - 1))))
 (fun g=>k2 a c g)
def lB (α:Type)(a b c:Int)(k1:Int->Int->Bool->Op α)(k2:Int->Int->Bool->Op α):Nat->Int->Int->Op α
 | 0,_,_=>none
 | n+1,d,e=>vX α a b c d e (lB α a b c k1 k2 n) k1 k2
def GE (α:Type)(a b c:Int)(k1:Int->Int->Bool->Op α)(k2:Int->Int->Bool->Op α)(d e:Int):Op α:=lB α a b c k1 k2 aE d e
abbrev qk:Type 1:=(α:Type)->Int->Int->Int->(Int->Int->Bool->Op α)->(Int->Int->Bool->Op α)->Int->Int->Op α
def pC:qk:=sld GE
def CJ (v:qk)(α:Type)(K:KT α):I9 (Op α):=fun h i a b c j m l o=>v α a b c (fun d e g=>pF (K (.exit 2)) h i a b c j d l e g) (fun d e g=>jq (K (.exit 2)) h i a b c j d l e g) m o
theorem akk (α:Type)(K:KT α)(Kn:SK α)(d e a b c g h i j:Int):BG (fun σ=>az Pg Ek3 aO qo (bI (fun σ=>br o7 σ Kn) K) σ) d e a b c g h i j=vX α a b c h j (fun h j=>BG Kn d e a b c g h i j) (fun l m o=>pF (K (.exit 2)) d e a b c g l i m o) (fun l m o=>jq (K (.exit 2)) d e a b c g l i m o):=by kernel_rfl
theorem ake (α:Type)(K:KT α):∀ (n:Nat) (d e a b c g i h j:Int),lB α a b c (fun l m o=>pF (K (.exit 2)) d e a b c g l h m o) (fun l m o=>jq (K (.exit 2)) d e a b c g l h m o) n i j=BG (aJ (az Pg Ek3 aO qo) o7 K n) d e a b c g i h j:=by
 intro n
 induction n with
 | zero=>intros;rfl
 | succ n ih=>intro d e a b c g i h j;exact (congrArg (fun kn=>vX α a b c i j kn (fun l m o=>pF (K (.exit 2)) d e a b c g l h m o) (fun l m o=>jq (K (.exit 2)) d e a b c g l h m o)) (funext fun i=>funext fun j=>ih d e a b c g i h j)).trans (akk α K (aJ (az Pg Ek3 aO qo) o7 K n) d e a b c g i h j).symm
theorem ahF:∀ (α:Type) (K:KT α),CJ pC α K=fQ.unc fun σ=>aJ (az Pg Ek3 aO qo) o7 K aE σ:=aZ (fun α K=>funext fun a=>funext fun b=>funext fun c=>funext fun d=>funext fun e=>funext fun g=>funext fun h=>funext fun i=>funext fun j=>ake α K aE a b c d e g h i j)
def abT:ah:=ah.sub [1,1,1,1,1,1,1,1,1,1,1,1,1,1,1,1,1,1,0] (ah.put (.m [⟨fQ,CJ pC⟩]) [1,1,1,1,1,1,1,1,1,1,1,1,1,1,1,1,1,1,0,0] (ah.put (.m [⟨fQ,uk lA⟩]) [1,1,1,1,1,1,1,1,1,1,1,1,1,1,1,1,1,1,0,0,0] (emb rk)))
abbrev qy:Type 1:=(α:Type)->Int->Int->Int->Int->Int->(Int->Int->Bool->Op α)->(Int->Int->Bool->Op α)->Op α
def Hy (α:Type)(a b c d e:Int)(k1:Int->Int->Bool->Op α)(k2:Int->Int->Bool->Op α):Op α:=
 pC α a b c
 (fun g h i=>k1 g h i)
 (fun j l m=>k2 j l m) d e
def jD:qy:=sld Hy
def Ou (v:qy)(α:Type)(K:KT α):I9 (Op α):=fun h i a b c j m l o=>v α a b c m o (fun d e g=>pF (K .normal) h i a b c j d l e g) (fun d e g=>jq (K .normal) h i a b c j d l e g)
theorem afe:∀ (α:Type) (K:KT α),Ou jD α K=fQ.unc fun σ=>az Pg Ek3 aO abT K σ:=aZ (fun α K=>by kernel_rfl)
def abE:ah:=ah.sub [1,1,1,1,1,1,1,1,1,1,1,1,1,1,0,0,0,0] (emb rk)
def Hb (α:Type)(b c a d:Int)(k1:Bool->Op α)(k2:Bool->Op α):Op α:=
 cK (decide (4294967296<=a))
 (k1 true)
 (cK (decide ((IntKind.wrap .u64 ((IntKind.wrap .u64 (4294967296*d))+c)) < (IntKind.wrap .u64 (a*b))))
 (k1 (decide ((IntKind.wrap .u64 ((IntKind.wrap .u64 (4294967296*d))+c)) < (IntKind.wrap .u64 (a*b)))))
 (k2 (decide ((IntKind.wrap .u64 ((IntKind.wrap .u64 (4294967296*d))+c)) < (IntKind.wrap .u64 (a*b))))))
def mp:qZ:=sld Hb
def wB (v:qZ)(α:Type)(K:KT α):I9 (Op α):=fun g h i a j b l c d=>v α a b c d (fun e=>jw (K .normal) g h i a j b l c d e) (fun e=>jw (K (.exit 0)) g h i a j b l c d e)
theorem aiE:∀ (α:Type) (K:KT α),wB mp α K=fI.unc fun σ=>az Pg Ek3 aO abE K σ:=aZ (fun α K=>by kernel_rfl)
def qO:ah:=ah.sub [1,1,1,1,1,1,1,1,1,1,1,1,1,1,0,0,0] (ah.put (.m [⟨fI,wB mp⟩]) [1,1,1,1,1,1,1,1,1,1,1,1,1,1,0,0,0] (emb rk))
def t7 (α:Type)(b d e c a:Int)(kn:Int->Int->Op α)(k1:Int->Int->Bool->Op α)(k2:Int->Int->Bool->Op α):Op α:=
 mp α d e c a
 (fun h=>cK (decide (4294967296<=(IntKind.wrap .u64 (a+b))))
 (k1 (IntKind.wrap .u64 (c - 1)) (IntKind.wrap .u64 (a+b)) (decide (4294967296<=(IntKind.wrap .u64 (a+b)))))
 (kn (IntKind.wrap .u64 (c - 1)) (IntKind.wrap .u64 (a+b))))
 (fun g=>k2 c a g)
def lw (α:Type)(a b c:Int)(k1:Int->Int->Bool->Op α)(k2:Int->Int->Bool->Op α):Nat->Int->Int->Op α
 | 0,_,_=>none
 | n+1,d,e=>t7 α a b c d e (lw α a b c k1 k2 n) k1 k2
def Hk (α:Type)(a b c:Int)(k1:Int->Int->Bool->Op α)(k2:Int->Int->Bool->Op α)(d e:Int):Op α:=lw α a b c k1 k2 aE d e
def pL:qk:=sld Hk
def En (v:qk)(α:Type)(K:KT α):I9 (Op α):=fun h i a b j c l m o=>v α a b c (fun d e g=>oH (K (.exit 0)) h i a b j c l d e g) (fun d e g=>jw (K (.exit 0)) h i a b j c l d e g) m o
theorem acP (α:Type)(K:KT α)(Kn:SK α)(d e a b g c h i j:Int):Eo (fun σ=>az Pg Ek3 aO qO (bI (fun σ=>br pN σ Kn) K) σ) d e a b g c h i j=t7 α a b c i j (fun i j=>Eo Kn d e a b g c h i j) (fun l m o=>oH (K (.exit 0)) d e a b g c h l m o) (fun l m o=>jw (K (.exit 0)) d e a b g c h l m o):=by kernel_rfl
theorem acm (α:Type)(K:KT α):∀ (n:Nat) (d e a b g c h i j:Int),lw α a b c (fun l m o=>oH (K (.exit 0)) d e a b g c h l m o) (fun l m o=>jw (K (.exit 0)) d e a b g c h l m o) n i j=Eo (aJ (az Pg Ek3 aO qO) pN K n) d e a b g c h i j:=by
 intro n
 induction n with
 | zero=>intros;rfl
 | succ n ih=>intro d e a b g c h i j;exact (congrArg (fun kn=>t7 α a b c i j kn (fun l m o=>oH (K (.exit 0)) d e a b g c h l m o) (fun l m o=>jw (K (.exit 0)) d e a b g c h l m o)) (funext fun i=>funext fun j=>ih d e a b g c h i j)).trans (acP α K (aJ (az Pg Ek3 aO qO) pN K n) d e a b g c h i j).symm
theorem agG:∀ (α:Type) (K:KT α),En pL α K=fI.unc fun σ=>aJ (az Pg Ek3 aO qO) pN K aE σ:=aZ (fun α K=>funext fun a=>funext fun b=>funext fun c=>funext fun d=>funext fun e=>funext fun g=>funext fun h=>funext fun i=>funext fun j=>acm α K aE a b c d e g h i j)
def abK:ah:=ah.sub [1,1,1,1,1,1,1,1,1,1,1,1,1,1,0] (ah.put (.m [⟨fI,En pL⟩]) [1,1,1,1,1,1,1,1,1,1,1,1,1,1,0,0] (ah.put (.m [⟨fI,wB mp⟩]) [1,1,1,1,1,1,1,1,1,1,1,1,1,1,0,0,0] (emb rk)))
def FW (α:Type)(a b c d e:Int)(k1:Int->Int->Bool->Op α)(k2:Int->Int->Bool->Op α):Op α:=
 pL α a b c
 (fun g h i=>k1 g h i)
 (fun j l m=>k2 j l m) d e
def oJ:qy:=sld FW
def LL (v:qy)(α:Type)(K:KT α):I9 (Op α):=fun h i a b j c l m o=>v α a b c m o (fun d e g=>oH (K .normal) h i a b j c l d e g) (fun d e g=>jw (K .normal) h i a b j c l d e g)
theorem agQ:∀ (α:Type) (K:KT α),LL oJ α K=fI.unc fun σ=>az Pg Ek3 aO abK K σ:=aZ (fun α K=>by kernel_rfl)
def Se (α:Type)(d c b:Int)(k1:Int->Int->Op α):Op α:=
 cK (b == 0)
 (none)
 (cK (decide (b<=d))
 (none)
 (cK (d == 0)
 (gK (b != 0) (gK (b != 0) (k1 (IntKind.wrap .u64 (Int.tdiv c b)) (Int.tmod c b))))
 (Ci α b
 (fun a=>gK (decide (0<=(IntKind.wrap .u64 (a)))) (gK (decide (0<=(IntKind.wrap .u64 (a)))) (gK (decide (0<=(IntKind.wrap .u64 (64 - (IntKind.wrap .u64 (a)))))) (gK (decide (0<=(IntKind.wrap .u64 (a)))) (gK ((Int.fdiv (IntKind.wrap .u64 (b*2 ^ (min (Int.toNat (IntKind.wrap .u64 (a))) 64))) (2 ^ 32)) != 0) (oJ α (Int.fdiv (IntKind.wrap .u64 (b*2 ^ (min (Int.toNat (IntKind.wrap .u64 (a))) 64))) (2 ^ 32)) (mT .u64 (IntKind.wrap .u64 (b*2 ^ (min (Int.toNat (IntKind.wrap .u64 (a))) 64))) 4294967295) (Int.fdiv (IntKind.wrap .u64 (c*2 ^ (min (Int.toNat (IntKind.wrap .u64 (a))) 64))) (2 ^ 32)) (IntKind.wrap .u64 (Int.tdiv (iOr .u64 (IntKind.wrap .u64 (d*2 ^ (min (Int.toNat (IntKind.wrap .u64 (a))) 64))) (Int.fdiv c (2 ^ (min (Int.toNat (IntKind.wrap .u64 (64 - (IntKind.wrap .u64 (a))))) 64)))) (Int.fdiv (IntKind.wrap .u64 (b*2 ^ (min (Int.toNat (IntKind.wrap .u64 (a))) 64))) (2 ^ 32)))) (IntKind.wrap .u64 ((iOr .u64 (IntKind.wrap .u64 (d*2 ^ (min (Int.toNat (IntKind.wrap .u64 (a))) 64))) (Int.fdiv c (2 ^ (min (Int.toNat (IntKind.wrap .u64 (64 - (IntKind.wrap .u64 (a))))) 64)))) - (IntKind.wrap .u64 ((IntKind.wrap .u64 (Int.tdiv (iOr .u64 (IntKind.wrap .u64 (d*2 ^ (min (Int.toNat (IntKind.wrap .u64 (a))) 64))) (Int.fdiv c (2 ^ (min (Int.toNat (IntKind.wrap .u64 (64 - (IntKind.wrap .u64 (a))))) 64)))) (Int.fdiv (IntKind.wrap .u64 (b*2 ^ (min (Int.toNat (IntKind.wrap .u64 (a))) 64))) (2 ^ 32))))*(Int.fdiv (IntKind.wrap .u64 (b*2 ^ (min (Int.toNat (IntKind.wrap .u64 (a))) 64))) (2 ^ 32))))))
 (fun e m o=>gK ((Int.fdiv (IntKind.wrap .u64 (b*2 ^ (min (Int.toNat (IntKind.wrap .u64 (a))) 64))) (2 ^ 32)) != 0) (jD α (Int.fdiv (IntKind.wrap .u64 (b*2 ^ (min (Int.toNat (IntKind.wrap .u64 (a))) 64))) (2 ^ 32)) (mT .u64 (IntKind.wrap .u64 (b*2 ^ (min (Int.toNat (IntKind.wrap .u64 (a))) 64))) 4294967295) (mT .u64 (IntKind.wrap .u64 (c*2 ^ (min (Int.toNat (IntKind.wrap .u64 (a))) 64))) 4294967295) (IntKind.wrap .u64 ((IntKind.wrap .u64 ((IntKind.wrap .u64 ((IntKind.wrap .u64 ((iOr .u64 (IntKind.wrap .u64 (d*2 ^ (min (Int.toNat (IntKind.wrap .u64 (a))) 64))) (Int.fdiv c (2 ^ (min (Int.toNat (IntKind.wrap .u64 (64 - (IntKind.wrap .u64 (a))))) 64))))*4294967296))+(Int.fdiv (IntKind.wrap .u64 (c*2 ^ (min (Int.toNat (IntKind.wrap .u64 (a))) 64))) (2 ^ 32)))) - (IntKind.wrap .u64 (e*(IntKind.wrap .u64 (b*2 ^ (min (Int.toNat (IntKind.wrap .u64 (a))) 64))))))) - (IntKind.wrap .u64 ((IntKind.wrap .u64 (Int.tdiv (IntKind.wrap .u64 ((IntKind.wrap .u64 ((IntKind.wrap .u64 ((iOr .u64 (IntKind.wrap .u64 (d*2 ^ (min (Int.toNat (IntKind.wrap .u64 (a))) 64))) (Int.fdiv c (2 ^ (min (Int.toNat (IntKind.wrap .u64 (64 - (IntKind.wrap .u64 (a))))) 64))))*4294967296))+(Int.fdiv (IntKind.wrap .u64 (c*2 ^ (min (Int.toNat (IntKind.wrap .u64 (a))) 64))) (2 ^ 32)))) - (IntKind.wrap .u64 (e*(IntKind.wrap .u64 (b*2 ^ (min (Int.toNat (IntKind.wrap .u64 (a))) 64))))))) (Int.fdiv (IntKind.wrap .u64 (b*2 ^ (min (Int.toNat (IntKind.wrap .u64 (a))) 64))) (2 ^ 32))))*(Int.fdiv (IntKind.wrap .u64 (b*2 ^ (min (Int.toNat (IntKind.wrap .u64 (a))) 64))) (2 ^ 32)))))) (IntKind.wrap .u64 (Int.tdiv (IntKind.wrap .u64 ((IntKind.wrap .u64 ((IntKind.wrap .u64 ((iOr .u64 (IntKind.wrap .u64 (d*2 ^ (min (Int.toNat (IntKind.wrap .u64 (a))) 64))) (Int.fdiv c (2 ^ (min (Int.toNat (IntKind.wrap .u64 (64 - (IntKind.wrap .u64 (a))))) 64))))*4294967296))+(Int.fdiv (IntKind.wrap .u64 (c*2 ^ (min (Int.toNat (IntKind.wrap .u64 (a))) 64))) (2 ^ 32)))) - (IntKind.wrap .u64 (e*(IntKind.wrap .u64 (b*2 ^ (min (Int.toNat (IntKind.wrap .u64 (a))) 64))))))) (Int.fdiv (IntKind.wrap .u64 (b*2 ^ (min (Int.toNat (IntKind.wrap .u64 (a))) 64))) (2 ^ 32))))
 (fun p h q=>gK (decide (0<=(IntKind.wrap .u64 (a)))) (k1 (IntKind.wrap .u64 ((IntKind.wrap .u64 (e*4294967296))+h)) (Int.fdiv (IntKind.wrap .u64 ((IntKind.wrap .u64 ((IntKind.wrap .u64 ((IntKind.wrap .u64 ((IntKind.wrap .u64 ((IntKind.wrap .u64 ((iOr .u64 (IntKind.wrap .u64 (d*2 ^ (min (Int.toNat (IntKind.wrap .u64 (a))) 64))) (Int.fdiv c (2 ^ (min (Int.toNat (IntKind.wrap .u64 (64 - (IntKind.wrap .u64 (a))))) 64))))*4294967296))+(Int.fdiv (IntKind.wrap .u64 (c*2 ^ (min (Int.toNat (IntKind.wrap .u64 (a))) 64))) (2 ^ 32)))) - (IntKind.wrap .u64 (e*(IntKind.wrap .u64 (b*2 ^ (min (Int.toNat (IntKind.wrap .u64 (a))) 64)))))))*4294967296))+(mT .u64 (IntKind.wrap .u64 (c*2 ^ (min (Int.toNat (IntKind.wrap .u64 (a))) 64))) 4294967295))) - (IntKind.wrap .u64 (h*(IntKind.wrap .u64 (b*2 ^ (min (Int.toNat (IntKind.wrap .u64 (a))) 64))))))) (2 ^ (min (Int.toNat (IntKind.wrap .u64 (a))) 64)))))
 (fun r i s=>gK (decide (0<=(IntKind.wrap .u64 (a)))) (k1 (IntKind.wrap .u64 ((IntKind.wrap .u64 (e*4294967296))+i)) (Int.fdiv (IntKind.wrap .u64 ((IntKind.wrap .u64 ((IntKind.wrap .u64 ((IntKind.wrap .u64 ((IntKind.wrap .u64 ((IntKind.wrap .u64 ((iOr .u64 (IntKind.wrap .u64 (d*2 ^ (min (Int.toNat (IntKind.wrap .u64 (a))) 64))) (Int.fdiv c (2 ^ (min (Int.toNat (IntKind.wrap .u64 (64 - (IntKind.wrap .u64 (a))))) 64))))*4294967296))+(Int.fdiv (IntKind.wrap .u64 (c*2 ^ (min (Int.toNat (IntKind.wrap .u64 (a))) 64))) (2 ^ 32)))) - (IntKind.wrap .u64 (e*(IntKind.wrap .u64 (b*2 ^ (min (Int.toNat (IntKind.wrap .u64 (a))) 64)))))))*4294967296))+(mT .u64 (IntKind.wrap .u64 (c*2 ^ (min (Int.toNat (IntKind.wrap .u64 (a))) 64))) 4294967295))) - (IntKind.wrap .u64 (i*(IntKind.wrap .u64 (b*2 ^ (min (Int.toNat (IntKind.wrap .u64 (a))) 64))))))) (2 ^ (min (Int.toNat (IntKind.wrap .u64 (a))) 64)))))))
 (fun g t w=>gK ((Int.fdiv (IntKind.wrap .u64 (b*2 ^ (min (Int.toNat (IntKind.wrap .u64 (a))) 64))) (2 ^ 32)) != 0) (jD α (Int.fdiv (IntKind.wrap .u64 (b*2 ^ (min (Int.toNat (IntKind.wrap .u64 (a))) 64))) (2 ^ 32)) (mT .u64 (IntKind.wrap .u64 (b*2 ^ (min (Int.toNat (IntKind.wrap .u64 (a))) 64))) 4294967295) (mT .u64 (IntKind.wrap .u64 (c*2 ^ (min (Int.toNat (IntKind.wrap .u64 (a))) 64))) 4294967295) (IntKind.wrap .u64 ((IntKind.wrap .u64 ((IntKind.wrap .u64 ((IntKind.wrap .u64 ((iOr .u64 (IntKind.wrap .u64 (d*2 ^ (min (Int.toNat (IntKind.wrap .u64 (a))) 64))) (Int.fdiv c (2 ^ (min (Int.toNat (IntKind.wrap .u64 (64 - (IntKind.wrap .u64 (a))))) 64))))*4294967296))+(Int.fdiv (IntKind.wrap .u64 (c*2 ^ (min (Int.toNat (IntKind.wrap .u64 (a))) 64))) (2 ^ 32)))) - (IntKind.wrap .u64 (g*(IntKind.wrap .u64 (b*2 ^ (min (Int.toNat (IntKind.wrap .u64 (a))) 64))))))) - (IntKind.wrap .u64 ((IntKind.wrap .u64 (Int.tdiv (IntKind.wrap .u64 ((IntKind.wrap .u64 ((IntKind.wrap .u64 ((iOr .u64 (IntKind.wrap .u64 (d*2 ^ (min (Int.toNat (IntKind.wrap .u64 (a))) 64))) (Int.fdiv c (2 ^ (min (Int.toNat (IntKind.wrap .u64 (64 - (IntKind.wrap .u64 (a))))) 64))))*4294967296))+(Int.fdiv (IntKind.wrap .u64 (c*2 ^ (min (Int.toNat (IntKind.wrap .u64 (a))) 64))) (2 ^ 32)))) - (IntKind.wrap .u64 (g*(IntKind.wrap .u64 (b*2 ^ (min (Int.toNat (IntKind.wrap .u64 (a))) 64))))))) (Int.fdiv (IntKind.wrap .u64 (b*2 ^ (min (Int.toNat (IntKind.wrap .u64 (a))) 64))) (2 ^ 32))))*(Int.fdiv (IntKind.wrap .u64 (b*2 ^ (min (Int.toNat (IntKind.wrap .u64 (a))) 64))) (2 ^ 32)))))) (IntKind.wrap .u64 (Int.tdiv (IntKind.wrap .u64 ((IntKind.wrap .u64 ((IntKind.wrap .u64 ((iOr .u64 (IntKind.wrap .u64 (d*2 ^ (min (Int.toNat (IntKind.wrap .u64 (a))) 64))) (Int.fdiv c (2 ^ (min (Int.toNat (IntKind.wrap .u64 (64 - (IntKind.wrap .u64 (a))))) 64))))*4294967296))+(Int.fdiv (IntKind.wrap .u64 (c*2 ^ (min (Int.toNat (IntKind.wrap .u64 (a))) 64))) (2 ^ 32)))) - (IntKind.wrap .u64 (g*(IntKind.wrap .u64 (b*2 ^ (min (Int.toNat (IntKind.wrap .u64 (a))) 64))))))) (Int.fdiv (IntKind.wrap .u64 (b*2 ^ (min (Int.toNat (IntKind.wrap .u64 (a))) 64))) (2 ^ 32))))
 (fun z j A=>gK (decide (0<=(IntKind.wrap .u64 (a)))) (k1 (IntKind.wrap .u64 ((IntKind.wrap .u64 (g*4294967296))+j)) (Int.fdiv (IntKind.wrap .u64 ((IntKind.wrap .u64 ((IntKind.wrap .u64 ((IntKind.wrap .u64 ((IntKind.wrap .u64 ((IntKind.wrap .u64 ((iOr .u64 (IntKind.wrap .u64 (d*2 ^ (min (Int.toNat (IntKind.wrap .u64 (a))) 64))) (Int.fdiv c (2 ^ (min (Int.toNat (IntKind.wrap .u64 (64 - (IntKind.wrap .u64 (a))))) 64))))*4294967296))+(Int.fdiv (IntKind.wrap .u64 (c*2 ^ (min (Int.toNat (IntKind.wrap .u64 (a))) 64))) (2 ^ 32)))) - (IntKind.wrap .u64 (g*(IntKind.wrap .u64 (b*2 ^ (min (Int.toNat (IntKind.wrap .u64 (a))) 64)))))))*4294967296))+(mT .u64 (IntKind.wrap .u64 (c*2 ^ (min (Int.toNat (IntKind.wrap .u64 (a))) 64))) 4294967295))) - (IntKind.wrap .u64 (j*(IntKind.wrap .u64 (b*2 ^ (min (Int.toNat (IntKind.wrap .u64 (a))) 64))))))) (2 ^ (min (Int.toNat (IntKind.wrap .u64 (a))) 64)))))
 (fun B l C=>gK (decide (0<=(IntKind.wrap .u64 (a)))) (k1 (IntKind.wrap .u64 ((IntKind.wrap .u64 (g*4294967296))+l)) (Int.fdiv (IntKind.wrap .u64 ((IntKind.wrap .u64 ((IntKind.wrap .u64 ((IntKind.wrap .u64 ((IntKind.wrap .u64 ((IntKind.wrap .u64 ((iOr .u64 (IntKind.wrap .u64 (d*2 ^ (min (Int.toNat (IntKind.wrap .u64 (a))) 64))) (Int.fdiv c (2 ^ (min (Int.toNat (IntKind.wrap .u64 (64 - (IntKind.wrap .u64 (a))))) 64))))*4294967296))+(Int.fdiv (IntKind.wrap .u64 (c*2 ^ (min (Int.toNat (IntKind.wrap .u64 (a))) 64))) (2 ^ 32)))) - (IntKind.wrap .u64 (g*(IntKind.wrap .u64 (b*2 ^ (min (Int.toNat (IntKind.wrap .u64 (a))) 64)))))))*4294967296))+(mT .u64 (IntKind.wrap .u64 (c*2 ^ (min (Int.toNat (IntKind.wrap .u64 (a))) 64))) 4294967295))) - (IntKind.wrap .u64 (l*(IntKind.wrap .u64 (b*2 ^ (min (Int.toNat (IntKind.wrap .u64 (a))) 64))))))) (2 ^ (min (Int.toNat (IntKind.wrap .u64 (a))) 64))))))))))))))))
def xU:fU:=sld Se
def QO:PT (List DV):=pA [pV false [(dI .u64)],pV false [(dI .u64)],pV false [(dI .u64)]]
def Rs (v:fU)(α:Type)(k:RT α):Int->Int->Int->Op α:=fun a b c=>v α a b c (fun d e=>Ft k d e)
def amc:ah:=(ah.put (.m [⟨fI,LL oJ⟩]) [1,1,1,1,1,1,1,1,1,1,1,1,1,1] (ah.put (.m [⟨fI,En pL⟩]) [1,1,1,1,1,1,1,1,1,1,1,1,1,1,0,0] (ah.put (.m [⟨fI,wB mp⟩]) [1,1,1,1,1,1,1,1,1,1,1,1,1,1,0,0,0] (ah.put (.m [⟨fQ,Ou jD⟩]) [1,1,1,1,1,1,1,1,1,1,1,1,1,1,1,1,1,1] (ah.put (.m [⟨fQ,CJ pC⟩]) [1,1,1,1,1,1,1,1,1,1,1,1,1,1,1,1,1,1,0,0] (ah.put (.m [⟨fQ,uk lA⟩]) [1,1,1,1,1,1,1,1,1,1,1,1,1,1,1,1,1,1,0,0,0] (emb rk)))))))
theorem am2:ak Pg 234 135 ⟨QO,Rs xU⟩:=iZ ek3 (ag Tryz.func234 (by kernel_rfl)) aO amc ((am _ _).trans ((am _ _).trans ((am _ _).trans ((am _ _).trans ((am _ _).trans ((am _ _).trans (aA _))))))) (aM (by kernel_rfl) (aW (td:=pN) (by kernel_rfl) (aM (by kernel_rfl) (aM (by kernel_rfl) (aW (td:=o7) (by kernel_rfl) (aM (by kernel_rfl) (aD rk) ⟨ag4,trivial⟩) ⟨ahF,trivial⟩) ⟨afe,trivial⟩) ⟨aiE,trivial⟩) ⟨agG,trivial⟩) ⟨agQ,trivial⟩) fun _ _=>by kernel_rfl
def av4:SG:=[(3,iS 2)]
def aFp:TG:=[tT 0 [1],tT 1 [2]]
def aG8:aq:=aw Pg Tryz.f196 aFp aC
def Vn (α:Type)(a b:Int)(k1:Int->Op α):Op α:=
 jT α a b
 (fun c=>eG α c
 (fun d=>k1 d))
def oQ:bB:=sld Vn
def ZA (v:bB)(α:Type)(k:RT α):Int->Int->Op α:=fun a b=>v α a b (fun c=>aR k c)
theorem amf:ak Pg 196 6 ⟨ba,ZA oQ⟩:=iP ek3 aG8 (ag Tryz.func196 (by kernel_rfl)) av4 fun _ _=>by kernel_rfl
def aCs:TG:=[tT 0 [0],tT 1 [0,3],tT 2 [3,10],tT 3 [3],tT 4 [2]]
def aGt:aq:=aw Pg Tryz.f201 aCs aC
def Iw (α:Type)(b:Int)(k1:Int->Op α):Op α:=
 eG α b
 (fun a=>cK (decide ((w64 (a*a)) < b))
 (k1 (w64 (a+1)))
 (k1 a))
def p7:ce:=sld Iw
def Qp (v:ce)(α:Type)(k:RT α):Int->Op α:=fun a=>v α a (fun b=>aR k b)
theorem amT:ak Pg 201 14 ⟨aU,Qp p7⟩:=iP ek3 aGt (ag Tryz.func201 (by kernel_rfl)) aO fun _ _=>by kernel_rfl
def aEr:SG:=[(5,iT),(8,iS 3),(10,iS 2),(11,iT),(17,iT)]
def aGS:TG:=[tT 0 [1,2,3],tT 1 [1,2,3,7],tT 2 [3,4],tT 3 [3,4]]
def aDB:aq:=aw Pg Tryz.f230 aGS aC
abbrev YH:Type 1:=(α:Type)->Int->Int->Int->(Int->Int->Int->Op α)->Op α
def Zp (α:Type)(a b c:Int)(k1:Int->Int->Int->Op α):Op α:=
 jy α c 1000000000
 (fun d=>cK (!d)
 (k1 a b 2)
 (ni α a b (Int.tmod (w64 ((Int.tmod c 4)+4)) 4)
 (fun e g=>k1 e g 0)))
def K4:YH:=sld Zp
def RH:PT (List DV):=pA [pV true [(dI .i64),(dI .i64),(dI .i64)],pV false [(dP [(dI .i64)] 0)]]
def Y7 (v:YH)(α:Type)(k:RT α):I4 (Op α):=fun a b c d=>v α a b d (fun e g h=>bG k e g c h)
theorem apl:ak Pg 230 19 ⟨RH,Y7 K4⟩:=iP ek3 aDB (ag Tryz.func230 (by kernel_rfl)) aEr fun _ _=>by kernel_rfl
def aAQ:TG:=[tT 0 [0],tT 1 [2]]
def aGg:aq:=aw Pg Tryz.f235 aAQ aC
abbrev T8:Type 1:=(α:Type)->Nat->(Bool->Op α)->Op α
def YB (α:Type)(a:Nat)(k1:Bool->Op α):Op α:=
 Wt α a
 (k1 false)
 (fun b=>cK ((FloatKind.format .f64).order b a == some Ordering.eq)
 (WZ α a 0
 (fun c=>k1 (!c)))
 (k1 false))
def Ba:T8:=sld YB
def SL (v:T8)(α:Type)(k:RT α):Nat->Op α:=fun a=>v α a (fun b=>bi k b)
theorem aoc:ak Pg 235 12 ⟨kc,SL Ba⟩:=iP ek3 aGg (ag Tryz.func235 (by kernel_rfl)) aO fun _ _=>by kernel_rfl
def avL:SG:=[(6,iT),(12,iT),(18,iT),(24,iS 2),(27,iT)]
def aDU:TG:=[tT 0 [1,2],tT 1 [1,2,21],tT 2 [2,3],tT 3 [2,3]]
def ajw:aq:=aw Pg Tryz.f232 aDU aC
def Cu:PT St:=pS [sP 1,sP 2] [au 1 (xs 3),au 2 [(cD (dX .f64)),xI]]
def aDL {β:Type}(g:St->β):Int->Int->Int->Nat->Nat->Int->β:=Cu.unc g
def acu:PT St:=pS [sP 1,sP 2,sl 21 (aV false [(cD dB)])] [au 1 (xs 3),au 2 [(cD (dX .f64)),xI]]
def ai4 {β:Type}(g:St->β):Bool->Int->Int->Int->Nat->Nat->Int->β:=acu.unc g
def aab:PT (List RV):=pRs [pR true [rD (dX .f64),rD (dI .i64)],wI]
def bE {β:Type}(g:List RV->β):Nat->Nat->Int->Int->β:=aab.unc g
def alL:ah:=ah.sub [1,0,0] (emb ajw)
def HT (α:Type)(a b c:Int)(k1:Bool->Op α):Op α:=
 jy α a 67108864
 (fun d=>cK (!d)
 (k1 true)
 (jy α b 67108864
 (fun e=>cK (!e)
 (k1 true)
 (kU α c 0 67108864
 (fun g=>k1 (!g))))))
def tU:cg:=sld HT
def Ma (v:cg)(α:Type)(K:KT α):Int->Int->Int->Nat->Nat->Int->Op α:=fun a b c d e g=>v α a b c (fun h=>ai4 (K .normal) h a b c d e g)
theorem ah9:∀ (α:Type) (K:KT α),Ma tU α K=Cu.unc fun σ=>az Pg Ek3 avL alL K σ:=aZ (fun α K=>by kernel_rfl)
abbrev rf:Type 1:=(α:Type)->Int->Int->Int->(Nat->Nat->Int->Int->Op α)->Op α
def Tt (α:Type)(a b c:Int)(k1:Nat->Nat->Int->Int->Op α):Op α:=
 tU α a b c
 (fun d=>cK d
 (k1 0 0 0 8)
 (K6 α a b
 (fun e g=>k1 e g c 0)))
def gn:rf:=sld Tt
def Vj (v:rf)(α:Type)(k:RT α):Int->Int->Int->Op α:=fun a b c=>v α a b c (fun d e g h=>bE k d e g h)
def apI:ah:=(ah.put (.m [⟨Cu,Ma tU⟩]) [1,0] (emb ajw))
theorem asQ:ak Pg 232 29 ⟨cZ,Vj gn⟩:=iZ ek3 (ag Tryz.func232 (by kernel_rfl)) avL apI ((am _ _).trans (aA _)) (aM (by kernel_rfl) (aD ajw) ⟨ah9,trivial⟩) fun _ _=>by kernel_rfl
def R2:SG:=[(8,iT),(14,iT),(20,iT),(22,iT)]
def aGY:TG:=[tT 0 [1,2],tT 1 [2,5],tT 2 [4],tT 3 [18],tT 4 [4],tT 5 [4]]
def LC:aq:=aw Pg Tryz.f115 aGY aC
def B6:PT St:=pS [sl 1 (aV false [(cD (dFn 116 []))]),sP 2] [au 2 [xI,xI]]
def aHh {β:Type}(g:St->β):Int->Int->β:=B6.unc g
def M4:ah:=ah.sub [1,0,0,0] (emb LC)
def FZ (α:Type)(a b:Int)(k1:Bool->Op α):Op α:=
 Ei α a
 (fun c=>cK (!c)
 (k1 true)
 (Ei α b
 (fun d=>k1 (!d))))
def wr:cY:=sld FZ
def t6 (v:cY)(α:Type)(K:KT α):Int->Int->Op α:=fun a b=>v α a b (fun c=>Lv (K .normal) c a b)
theorem ad1:∀ (α:Type) (K:KT α),t6 wr α K=B6.unc fun σ=>az Pg Ek3 R2 M4 K σ:=aZ (fun α K=>by kernel_rfl)
def Yd (α:Type)(a b:Int)(k1:Int->Op α):Op α:=
 wr α a b
 (fun c=>cK c
 (k1 2)
 (cK (decide (b < a))
 (k1 10)
 (k1 0)))
def ES:bB:=sld Yd
def QW:PT (List DV):=pA [pV true [(dI .i64),(dI .i64)],pV false [(dFn 116 [])]]
def SD (v:bB)(α:Type)(k:RT α):Int->Int->Op α:=fun a b=>v α a b (fun c=>aR k c)
def ank:ah:=(ah.put (.m [⟨B6,t6 wr⟩]) [1,0,0] (emb LC))
theorem an8:ak Pg 115 24 ⟨QW,SD ES⟩:=iZ ek3 (ag Tryz.func115 (by kernel_rfl)) R2 ank ((am _ _).trans (aA _)) (aM (by kernel_rfl) (aD LC) ⟨ad1,trivial⟩) fun _ _=>by kernel_rfl
def Bz:PT St:=pS [sl 1 (aV false [(cD (dFn 117 []))]),sP 2] [au 2 [xI,xI]]
def aHs {β:Type}(g:St->β):Int->Int->β:=Bz.unc g
def GM (α:Type)(a b:Int)(k1:Bool->Op α):Op α:=
 DB α a
 (fun c=>cK (!c)
 (k1 true)
 (DB α b
 (fun d=>k1 (!d))))
def v7:cY:=sld GM
theorem aiz:∀ (α:Type) (K:KT α),t6 v7 α K=Bz.unc fun σ=>az Pg Ek3 R2 M4 K σ:=aZ (fun α K=>by kernel_rfl)
def XX (α:Type)(a b:Int)(k1:Int->Op α):Op α:=
 v7 α a b
 (fun c=>cK c
 (k1 2)
 (cK (decide (b < a))
 (k1 10)
 (k1 0)))
def Es:bB:=sld XX
def TR:PT (List DV):=pA [pV true [(dI .i64),(dI .i64)],pV false [(dFn 117 [])]]
def XG (v:bB)(α:Type)(k:RT α):Int->Int->Op α:=fun a b=>v α a b (fun c=>aR k c)
def anZ:ah:=(ah.put (.m [⟨Bz,t6 v7⟩]) [1,0,0] (emb LC))
theorem ams:ak Pg 115 24 ⟨TR,XG Es⟩:=iZ ek3 (ag Tryz.func115 (by kernel_rfl)) R2 anZ ((am _ _).trans (aA _)) (aM (by kernel_rfl) (aD LC) ⟨aiz,trivial⟩) fun _ _=>by kernel_rfl
def ag5:SG:=[(4,iS 9),(9,iT),(14,iS 2),(21,iT),(24,iT),(28,iS 2),(34,iT),(37,iT),(41,iT),(46,iT),(52,iT),(54,iT)]
def aCi:TG:=[tT 0 [1],tT 1 [1,3],tT 2 [2],tT 3 [1,7],tT 4 [2],tT 5 [1,18],tT 6 [2],tT 7 [1,26],tT 8 [2],tT 9 [1,31],tT 10 [2],tT 11 [1,39],tT 12 [2],tT 13 [50],tT 14 [2],tT 15 [2]]
def Sm:aq:=aw Pg Tryz.f114 aCi aC
def DE:PT St:=pS [sP 1,sl 3 (aV false [(cD dB)])] [au 1 (xs 9)]
def aFt {β:Type}(g:St->β):Bool->I9 β:=DE.unc g
def afC:PT St:=pS [sP 1,sl 7 (aV false [(cD dB)])] [au 1 (xs 9)]
def adN {β:Type}(g:St->β):Bool->I9 β:=afC.unc g
def Cm:PT St:=pS [sP 1,sl 31 (aV false [(cD dB)])] [au 1 (xs 9)]
def aBw {β:Type}(g:St->β):Bool->I9 β:=Cm.unc g
def acs:PT St:=pS [sP 1,sl 39 (aV false [(cD dB)])] [au 1 (xs 9)]
def adx {β:Type}(g:St->β):Bool->I9 β:=acs.unc g
def abc:ah:=ah.sub [1,0,0,1,1,1,1,1,1,1,1,1,1,0] (emb Sm)
def F0 (α:Type)(a b:Int)(k1:Bool->Op α):Op α:=
 pf α a 0 10000
 (fun c=>cK (!c)
 (k1 true)
 (pf α b 0 10000
 (fun d=>k1 (!d))))
def p8:cY:=sld F0
def Oc (v:cY)(α:Type)(K:KT α):Bool->I9 (Op α):=fun m c d e g h i j a b=>v α a b (fun l=>adx (K .normal) l c d e g h i j a b)
theorem akf:∀ (α:Type) (K:KT α),Oc p8 α K=Cm.unc fun σ=>az Pg Ek3 ag5 abc K σ:=aZ (fun α K=>by kernel_rfl)
def abL:ah:=ah.sub [1,0,0,1,1,0] (emb Sm)
def F6 (α:Type)(a b c:Int)(k1:Bool->Op α):Op α:=
 pf α a 5000 80000
 (fun d=>cK (!d)
 (k1 true)
 (yN α b c 0 9999
 (fun e=>k1 (!e))))
def nX:cg:=sld F6
def Lh (v:cg)(α:Type)(K:KT α):Bool->I9 (Op α):=fun m d e a b c g h i j=>v α a b c (fun l=>adN (K .normal) l d e a b c g h i j)
theorem ab5:∀ (α:Type) (K:KT α),Lh nX α K=DE.unc fun σ=>az Pg Ek3 ag5 abL K σ:=aZ (fun α K=>by kernel_rfl)
def UK (α:Type)(h i j a b c d e g:Int)(k1:Int->Op α):Op α:=
 DL α h i
 (fun l=>cK (!l)
 (k1 11)
 (nX α j a b
 (fun m=>cK m
 (k1 2)
 (cK (decide (b < a))
 (k1 10)
 (yN α c d 1000 200000
 (fun o=>cK (!o)
 (k1 2)
 (cK (decide (d < c))
 (k1 10)
 (p8 α e g
 (fun p=>cK p
 (k1 2)
 (cK (decide (g < e))
 (k1 24)
 (k1 0)))))))))))
def Bi:JZ:=sld UK
def TV (v:JZ)(α:Type)(k:RT α):I9 (Op α):=fun a b c d e g h i j=>v α a b c d e g h i j (fun l=>aR k l)
def anf:ah:=(ah.put (.m [⟨DE,Lh nX⟩]) [1,0,0,1,1] (ah.put (.m [⟨Cm,Oc p8⟩]) [1,0,0,1,1,1,1,1,1,1,1,1,1] (emb Sm)))
theorem ast:ak Pg 114 56 ⟨kW,TV Bi⟩:=iZ ek3 (ag Tryz.func114 (by kernel_rfl)) ag5 anf ((am _ _).trans ((am _ _).trans (aA _))) (aM (by kernel_rfl) (aM (by kernel_rfl) (aD Sm) ⟨akf,trivial⟩) ⟨ab5,trivial⟩) fun _ _=>by kernel_rfl
def K5:SG:=[(19,iS 3),(20,iS 3),(22,iT),(27,iT),(33,iT),(45,iS 3),(46,iS 3),(48,iT),(53,iT),(59,iT),(61,iT),(64,iT),(69,iT),(74,iT)]
def aKi:TG:=[tT 0 [0,1],tT 1 [0,1,14],(2,⟨[4,5],true,[⟨false,4,0,20004,5⟩],[]⟩),tT 3 [0,1,15,16,17],tT 4 [0,1,15,16,17,18],tT 5 [0,1,7,15,16,17],tT 6 [0,1,15,16,17,36],(7,⟨[4,5],true,[⟨false,4,0,20004,5⟩],[]⟩),tT 8 [0,1,15,16,17],tT 9 [0,1,40],(10,⟨[4,5],true,[⟨false,4,0,20004,5⟩],[]⟩),tT 11 [0,1,8],tT 12 [1,8,41,42,43],tT 13 [1,8,41,42,43,44],tT 14 [1,8,10,41,42,43],tT 15 [1,8,10,11,41,42,43],tT 16 [1,8,10,11,41,42,43,56],(17,⟨[4,5],true,[⟨false,4,0,20004,5⟩],[]⟩),tT 18 [1,8,41,42,43],tT 19 [1,8,41,42,43],(20,⟨[4,5],true,[⟨false,4,0,20004,5⟩],[]⟩)]
def aIP:TG:=[(4,⟨[0,1,15,16,17],true,[⟨false,15,0,20015,3⟩],[]⟩),(13,⟨[1,8,41,42,43],true,[⟨false,8,0,20008,5⟩,⟨false,41,0,20041,3⟩],[]⟩)]
def ZJ:aq:=aw Pg Tryz.f39 aKi aIP
def vj:OT:=tdC (ah.sub [1,1,0,1,0] (emb ZJ))
def uH:OT:=tdC (ah.sub [1,1,1,1,1,0,1,0] (emb ZJ))
def J9:PT St:=pS [sl 0 (aV false [(cD dL)]),sI 1,sl 15 (aV false [(cD dL)]),sI 16,sI 17] []
def Ji {β:Type}(g:St->β):ae->Int->ae->Int->Int->β:=J9.unc g
def aob:PT St:=pS [sl 4 (aV false [(dG 20004)]),sI 5] [dE 20004 5]
def kb {β:Type}(g:St->β):Int->ae->β:=aob.unc g
def amb:PT St:=pS [sl 0 (aV false [(cD dL)]),sI 1,sl 15 (aV false [(cD dL)]),sI 16,sI 17,sl 18 (aV false [(cD dB)])] []
def At {β:Type}(g:St->β):ae->Int->ae->Int->Int->Bool->β:=amb.unc g
def JG:PT St:=pS [sI 1,sl 8 (aV false [(dG 20008)]),sl 41 (aV false [(cD dL)]),sI 42,sI 43] [dE 20008 5]
def IW {β:Type}(g:St->β):Int->ae->Int->Int->ae->β:=JG.unc g
def asj:PT St:=pS [sI 1,sl 8 (aV false [(dG 20008)]),sl 41 (aV false [(cD dL)]),sI 42,sI 43,sl 44 (aV false [(cD dB)])] [dE 20008 5]
def zU {β:Type}(g:St->β):Int->ae->Int->Int->Bool->ae->β:=asj.unc g
def t8:ah:=ah.sub [1,1,1,1,1,0,1,0,0] (emb ZJ)
def wq (α:Type)(i:Int)(j:ae)(g c:Int)(e:ae)(kn:Int->ae->Op α)(k1:Op α)(k2:Int->Bool->ae->Op α):Op α:=
 cK (decide (c < g))
 (dT j c [.int .i64,.int .i64,.int .i64]
 (fun d h a=>nx α (w64 (a*i)) 1000
 (fun b=>cK (decide (1000000 < (w64 (a+b))))
 (k1)
 (gK (dH 5 40 e [[DC.v (.int .i64 d),DC.v (.int .i64 d),DC.v (.int .i64 (if (w64 (a - b)) > 0 then (w64 (a - b)) else 0)),DC.v (.int .i64 (w64 (a+b))),DC.v (.int .i64 h)]]) (kn (w64 (c+1)) (e++[[DC.v (.int .i64 d),DC.v (.int .i64 d),DC.v (.int .i64 (if (w64 (a - b)) > 0 then (w64 (a - b)) else 0)),DC.v (.int .i64 (w64 (a+b))),DC.v (.int .i64 h)]]))))))
 (k2 c (decide (c < g)) e)
def mQ (α:Type)(a:Int)(b:ae)(c:Int)(k1:Op α)(k2:Int->Bool->ae->Op α):Nat->Int->ae->Op α
 | 0,_,_=>none
 | n+1,d,e=>wq α a b c d e (mQ α a b c k1 k2 n) k1 k2
def Lp (α:Type)(a:Int)(b:ae)(c:Int)(k1:Op α)(k2:Int->Bool->ae->Op α)(d:Int)(e:ae):Op α:=mQ α a b c k1 k2 aE d e
abbrev Nt:Type 1:=(α:Type)->Int->ae->Int->(Op α)->(Int->Bool->ae->Op α)->Int->ae->Op α
def Ak:Nt:=sld Lp
def Sb (v:Nt)(α:Type)(K:KT α):Int->ae->Int->Int->ae->Op α:=fun a b c d e=>v α a b c (kb (K .ret) 8 ([]:ae)) (fun g h i=>zU (K (.exit 2)) a b c g h i) d e
theorem amY (α:Type)(K:KT α)(Kn:SK α)(a:Int)(b:ae)(c d:Int)(e:ae):IW (fun σ=>az Pg Ek3 K5 t8 (bI (fun σ=>br uH σ Kn) K) σ) a b c d e=wq α a b c d e (fun d e=>IW Kn a b c d e) (kb (K .ret) 8 ([]:ae)) (fun g h i=>zU (K (.exit 2)) a b c g h i):=by kernel_rfl
theorem asz (α:Type)(K:KT α):∀ (n:Nat) (a:Int) (b:ae) (c d:Int) (e:ae),mQ α a b c (kb (K .ret) 8 ([]:ae)) (fun g h i=>zU (K (.exit 2)) a b c g h i) n d e=IW (aJ (az Pg Ek3 K5 t8) uH K n) a b c d e:=by
 intro n
 induction n with
 | zero=>intros;rfl
 | succ n ih=>intro a b c d e;exact (congrArg (fun kn=>wq α a b c d e kn (kb (K .ret) 8 ([]:ae)) (fun g h i=>zU (K (.exit 2)) a b c g h i)) (funext fun d=>funext fun e=>ih a b c d e)).trans (amY α K (aJ (az Pg Ek3 K5 t8) uH K n) a b c d e).symm
theorem as7:∀ (α:Type) (K:KT α),Sb Ak α K=JG.unc fun σ=>aJ (az Pg Ek3 K5 t8) uH K aE σ:=aZ (fun α K=>funext fun a=>funext fun b=>funext fun c=>funext fun d=>funext fun e=>asz α K aE a b c d e)
def tJ:ah:=ah.sub [1,1,0,1,0,0] (emb ZJ)
def wG (α:Type)(c:ae)(b a:Int)(kn:Int->Op α)(k1:Op α)(k2:Int->Bool->Op α):Op α:=
 cK (decide (a < b))
 (dT c a [.int .i64,.int .i64,.int .i64]
 (fun d e g=>ro α d
 (fun h=>cK (!h)
 (k1)
 (y8 α e
 (fun i=>cK (!i)
 (k1)
 (CM α g
 (fun j=>cK (!j)
 (k1)
 (kn (w64 (a+1))))))))))
 (k2 a (decide (a < b)))
def rg (α:Type)(a:ae)(b:Int)(k1:Op α)(k2:Int->Bool->Op α):Nat->Int->Op α
 | 0,_=>none
 | n+1,c=>wG α a b c (rg α a b k1 k2 n) k1 k2
def OB (α:Type)(a:ae)(b:Int)(k1:Op α)(k2:Int->Bool->Op α)(c:Int):Op α:=rg α a b k1 k2 aE c
abbrev wS:Type 1:=(α:Type)->ae->Int->(Op α)->(Int->Bool->Op α)->Int->Op α
def A9:wS:=sld OB
def WC (v:wS)(α:Type)(K:KT α):ae->Int->ae->Int->Int->Op α:=fun c d a b e=>v α a b (kb (K .ret) 2 ([]:ae)) (fun g h=>At (K (.exit 0)) c d a b g h) e
theorem apT (α:Type)(K:KT α)(Kn:SK α)(d:ae)(e:Int)(a:ae)(b c:Int):Ji (fun σ=>az Pg Ek3 K5 tJ (bI (fun σ=>br vj σ Kn) K) σ) d e a b c=wG α a b c (fun c=>Ji Kn d e a b c) (kb (K .ret) 2 ([]:ae)) (fun g h=>At (K (.exit 0)) d e a b g h):=by kernel_rfl
theorem aok (α:Type)(K:KT α):∀ (n:Nat) (d:ae) (e:Int) (a:ae) (b c:Int),rg α a b (kb (K .ret) 2 ([]:ae)) (fun g h=>At (K (.exit 0)) d e a b g h) n c=Ji (aJ (az Pg Ek3 K5 tJ) vj K n) d e a b c:=by
 intro n
 induction n with
 | zero=>intros;rfl
 | succ n ih=>intro d e a b c;exact (congrArg (fun kn=>wG α a b c kn (kb (K .ret) 2 ([]:ae)) (fun g h=>At (K (.exit 0)) d e a b g h)) (funext fun c=>ih d e a b c)).trans (apT α K (aJ (az Pg Ek3 K5 tJ) vj K n) d e a b c).symm
theorem arB:∀ (α:Type) (K:KT α),WC A9 α K=J9.unc fun σ=>aJ (az Pg Ek3 K5 tJ) vj K aE σ:=aZ (fun α K=>funext fun a=>funext fun b=>funext fun c=>funext fun d=>funext fun e=>aok α K aE a b c d e)
abbrev akV:Type 1:=(α:Type)->ae->Int->(ae->Int->Op α)->Op α
def agt (α:Type)(a:ae)(b:Int)(k1:ae->Int->Op α):Op α:=
 cK (decide (40 < ((List.length a:Nat):Int)))
 (k1 ([]:ae) 8)
 (A9 α a ((List.length a:Nat):Int)
 (k1 ([]:ae) 2)
 (fun e g=>ov α b 0 1000
 (fun c=>cK (!c)
 (k1 ([]:ae) 2)
 (Ak α b a ((List.length a:Nat):Int)
 (k1 ([]:ae) 8)
 (fun h i d=>k1 d 0) 0 ([]:ae)))) 0)
def Nb:akV:=sld agt
def aig:PT (List DV):=pA [pV false [dL],vI]
def ae0 (v:akV)(α:Type)(k:RT α):ae->Int->Op α:=fun a b=>v α a b (fun c d=>BS k c d)
def azz:ah:=(ah.put (.m [⟨J9,WC A9⟩]) [1,1,0,1,0] (ah.put (.m [⟨JG,Sb Ak⟩]) [1,1,1,1,1,0,1,0] (emb ZJ)))
theorem ayj:ak Pg 39 80 ⟨aig,ae0 Nb⟩:=iZ ek3 (ag Tryz.func39 (by kernel_rfl)) K5 azz ((am _ _).trans ((am _ _).trans (aA _))) (aW (td:=vj) (by kernel_rfl) (aW (td:=uH) (by kernel_rfl) (aD ZJ) ⟨as7,trivial⟩) ⟨arB,trivial⟩) fun _ _=>by kernel_rfl
def aKr:SG:=[(8,iS 2),(15,iT),(17,iT)]
def aJK:TG:=[tT 0 [1,2,3],tT 1 [3,7],tT 2 [6],tT 3 [13],tT 4 [6],tT 5 [6]]
def aLi:aq:=aw Pg Tryz.f38 aJK aC
def agN (α:Type)(a b c d:Int)(k1:Int->Op α):Op α:=
 OF α a b c d
 (fun e=>cK (!e)
 (k1 2)
 (cK (decide (b < a))
 (k1 10)
 (k1 0)))
def ND:xM:=sld agN
def alz (v:xM)(α:Type)(k:RT α):I4 (Op α):=fun a b c d=>v α a b c d (fun e=>aR k e)
theorem azR:ak Pg 38 19 ⟨fZ,alz ND⟩:=iP ek3 aLi (ag Tryz.func38 (by kernel_rfl)) aKr fun _ _=>by kernel_rfl
end
end Go.AM.K
