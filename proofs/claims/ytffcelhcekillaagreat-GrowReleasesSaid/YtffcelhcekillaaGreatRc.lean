/- Printed by KGen. -/
import Derived.Test.YtffcelhcekillaaGreatRb
namespace Go.AM.K
open Go.Proofs
set_option maxRecDepth 100000
set_option linter.unusedVariables false
noncomputable section
def azY:TG:=[tT 0 [0,1],tT 1 [5,6],tT 2 [5,14],tT 3 [5],tT 4 [4]]
def aGu:ap:=aw Pg Tryz.f268 azY aC
def Zz (α:Type)(b c:Int)(k1:Int->Op α):Op α:=
 yw α b c
 (fun a d=>cK (d != 0)
 (k1 (w64 (a+1)))
 (k1 a))
def Cv:bz:=sld Zz
def Tp (v:bz)(α:Type)(k:RT α):Int->Int->Op α:=fun a b=>v α a b (fun c=>aQ k c)
theorem apY:ak Pg 268 18 ⟨bq,Tp Cv⟩:=iP ek3 aGu (ah Tryz.func268 (by kernel_rfl)) aN fun _ _=>by kernel_rfl
def aGv:TG:=[tT 0 [1],tT 1 [2]]
def aGB:ap:=aw Pg Tryz.f252 aGv aC
def Th (α:Type)(a b:Int)(k1:Int->Op α):Op α:=
 n6 α (w64 ((w64 (a*a))+(w64 (b*b))))
 (fun c=>k1 c)
def mY:bz:=sld Th
def Ue (v:bz)(α:Type)(k:RT α):Int->Int->Int->Op α:=fun a b d=>v α a b (fun c=>aQ k c)
theorem amw:ak Pg 252 15 ⟨cX,Ue mY⟩:=iP ek3 aGB (ah Tryz.func252 (by kernel_rfl)) ajD fun _ _=>by kernel_rfl
def az3:TG:=[tT 0 [0,1],tT 1 [1,6,7],tT 2 [6,7,22],tT 3 [4,5],tT 4 [4,5]]
def aE8:ap:=aw Pg Tryz.f247 az3 aC
def TY (α:Type)(d c:Int)(k1:Int->Bool->Op α):Op α:=
 yw α d c
 (fun b a=>cK (a != 0)
 (cK (decide ((w64 (c - a))<=a))
 (k1 (w64 (b+1)) true)
 (k1 b (a != 0)))
 (k1 b (a != 0)))
def mD:qT:=sld TY
def S6 (v:qT)(α:Type)(k:RT α):Int->Int->Op α:=fun a b=>v α a b (fun c d=>qo k c d)
theorem atY:ak Pg 247 28 ⟨bq,S6 mD⟩:=iP ek3 aE8 (ah Tryz.func247 (by kernel_rfl)) aN fun _ _=>by kernel_rfl
def av0:SG:=[(5,iT),(10,iT),(16,iT),(21,iS 3)]
def aBT:TG:=[tT 0 [1,2],tT 1 [1,2,19],tT 2 [2,3],tT 3 [2,3]]
def agj:ap:=aw Pg Tryz.f248 aBT aC
def Cj:PT St:=pS [sP 1,sP 2] [au 1 (xs 3),au 2 (xs 3)]
def aEl {β:Type}(g:St->β):I6 β:=Cj.unc g
def ab9:PT St:=pS [sP 1,sP 2,sl 19 (aV false [(cD dB)])] [au 1 (xs 3),au 2 (xs 3)]
def afM {β:Type}(g:St->β):Bool->I6 β:=ab9.unc g
def ah4:ag:=ag.sub [1,0,0] (emb agj)
def Gf (α:Type)(a b c:Int)(k1:Bool->Op α):Op α:=
 nw α a
 (fun d=>cK (!d)
 (k1 true)
 (nw α b
 (fun e=>cK (!e)
 (k1 true)
 (cS α c 0 67108864
 (fun g=>k1 (!g))))))
def wj:cg:=sld Gf
def M5 (v:cg)(α:Type)(K:KT α):I6 (Op α):=fun a b c d e g=>v α a b c (fun h=>afM (K .normal) h a b c d e g)
theorem ahU:∀ (α:Type) (K:KT α),M5 wj α K=Cj.unc fun σ=>az Pg Ek3 av0 ah4 K σ:=aY (fun α K=>by kernel_rfl)
def XV (α:Type)(a b c:Int)(k1:I4 (Op α)):Op α:=
 wj α a b c
 (fun d=>cK d
 (k1 0 0 0 8)
 (k1 a b c 0))
def dD:kf:=sld XV
def QN (v:kf)(α:Type)(k:RT α):Int->Int->Int->Op α:=fun a b c=>v α a b c (fun d e g h=>bD k d e g h)
def aoV:ag:=(ag.put (.m [⟨Cj,M5 wj⟩]) [1,0] (emb agj))
theorem arW:ak Pg 248 22 ⟨cX,QN dD⟩:=iZ ek3 (ah Tryz.func248 (by kernel_rfl)) av0 aoV ((an _ _).trans (aA _)) (aL (by kernel_rfl) (aD agj) ⟨ahU,trivial⟩) fun _ _=>by kernel_rfl
def aI8:SG:=[(4,iS 2),(9,iS 2),(15,iT),(21,iT),(24,iT),(29,iT),(32,iT)]
def aK3:TG:=[tT 0 [1],tT 1 [1,18],tT 2 [2],tT 3 [34],tT 4 [2],tT 5 [2]]
def aIz:ap:=aw Pg Tryz.f98 aK3 aC
abbrev akR:Type 1:=(α:Type)->Int->Int->Int->Int->Int->(Int->Op α)->Op α
def aii (α:Type)(a b c d e:Int)(k1:Int->Op α):Op α:=
 yz α a b 5000 80000
 (fun g=>cK (!g)
 (k1 2)
 (yz α c d 0 1000000
 (fun h=>cK (!h)
 (k1 2)
 (sb α e
 (fun i=>cK (!i)
 (k1 2)
 (cK (decide (b < a))
 (k1 10)
 (cK (decide (d < c))
 (k1 10)
 (k1 0))))))))
def NX:akR:=sld aii
def aiA:PT (List DV):=pA [pV true [(dI .i64),(dI .i64),(dI .i64),(dI .i64),(dI .i64)]]
def afa (v:akR)(α:Type)(k:RT α):I5 (Op α):=fun a b c d e=>v α a b c d e (fun g=>aQ k g)
theorem axi:ak Pg 98 35 ⟨aiA,afa NX⟩:=iP ek3 aIz (ah Tryz.func98 (by kernel_rfl)) aI8 fun _ _=>by kernel_rfl
def aKs:SG:=[(4,iT),(9,iT),(14,iT),(19,iS 2),(25,iT),(28,iT),(31,iS 2),(36,iT),(39,iT),(42,iT),(47,iT),(52,iT),(54,iT)]
def aIx:TG:=[tT 0 [1],tT 1 [1,12],tT 2 [2],tT 3 [1,22],tT 4 [2],tT 5 [1,29],tT 6 [2],tT 7 [1,33],tT 8 [2],tT 9 [1,40],tT 10 [2],tT 11 [1,50],tT 12 [2],tT 13 [55],tT 14 [2],tT 15 [2]]
def aI7:ap:=aw Pg Tryz.f97 aIx aC
abbrev Ke:Type 1:=(α:Type)->Int->Int->Int->Int->Int->Int->Int->Int->Int->(Int->Op α)->Op α
def ajg (α:Type)(h i j a b c d e g:Int)(k1:Int->Op α):Op α:=
 JP α h
 (fun l=>cK (!l)
 (k1 11)
 (CY α i
 (fun m=>cK (!m)
 (k1 11)
 (cS α j 5000 80000
 (fun o=>cK (!o)
 (k1 2)
 (yB α a b 0 9999
 (fun p=>cK (!p)
 (k1 2)
 (cK (decide (b < a))
 (k1 10)
 (yB α c d 1000 200000
 (fun q=>cK (!q)
 (k1 2)
 (cK (decide (d < c))
 (k1 10)
 (cS α e 0 10000
 (fun r=>cK (!r)
 (k1 2)
 (cS α g 0 10000
 (fun s=>cK (!s)
 (k1 2)
 (cK (decide (g < e))
 (k1 24)
 (k1 0)))))))))))))))))
def Oh:Ke:=sld ajg
def aiE (v:Ke)(α:Type)(k:RT α):I9 (Op α):=fun a b c d e g h i j=>v α a b c d e g h i j (fun l=>aQ k l)
theorem azk:ak Pg 97 56 ⟨la,aiE Oh⟩:=iP ek3 aI7 (ah Tryz.func97 (by kernel_rfl)) aKs fun _ _=>by kernel_rfl
def wL:SG:=[(14,[.sl]),(19,[.sl]),(25,[.sl]),(27,iS 3),(28,iS 3),(30,iT),(35,iT),(41,iT),(46,[.sl]),(49,[.sl]),(54,[.sl]),(60,[.sl]),(62,iS 2),(63,iS 2),(69,iT),(74,[.sl]),(80,[.sl]),(82,iS 3),(83,iS 3),(85,iT),(87,iT),(91,iT),(96,iT),(102,[.sl]),(106,[.sl]),(108,iS 2),(109,iS 2),(111,iT),(115,iT),(117,iT),(119,iS 2),(121,iT)]
def aIB:TG:=[tT 0 [1],tT 1 [1,16],(2,⟨[2,3],true,[⟨false,2,0,20002,5⟩],[]⟩),tT 3 [1,4],tT 4 [1,4,21],tT 6 [1,4,5],tT 7 [1,4,44],(8,⟨[2,3],true,[⟨false,2,0,20002,5⟩],[]⟩),tT 5 [1,4],tT 9 [1,51],(10,⟨[2,3],true,[⟨false,2,0,20002,5⟩],[]⟩),tT 11 [1,6],tT 12 [1,6,56],tT 14 [1,6,7],tT 15 [1,6,7,66],(16,⟨[2,3],true,[⟨false,2,0,20002,5⟩],[]⟩),tT 13 [1,6],tT 17 [1,71],(18,⟨[2,3],true,[⟨false,2,0,20002,5⟩],[]⟩),tT 19 [1,8],tT 20 [1,8,9],tT 21 [1,8,9,76],tT 23 [1,8,9,10],tT 24 [1,8,9,10,11],tT 25 [1,8,9,10,12],tT 26 [1,8,9,10,12,104],tT 27 [1,8,9,10,12],tT 28 [1,8,9,10,12,112],(29,⟨[2,3],true,[⟨false,2,0,20002,5⟩],[]⟩),tT 30 [1,8,9],tT 22 [1,8,9],(31,⟨[2,3],true,[⟨false,2,0,20002,5⟩],[]⟩)]
def aKj:TG:=[(4,⟨[1,4],true,[⟨true,1,0,30100,3⟩,⟨true,1,1,30101,2⟩,⟨true,1,3,30103,9⟩],[]⟩),(12,⟨[1,6],true,[⟨true,1,0,30100,3⟩,⟨true,1,1,30101,2⟩,⟨true,1,3,30103,9⟩],[]⟩),(21,⟨[1,8,9],true,[⟨false,8,0,20008,5⟩,⟨true,1,0,30100,3⟩,⟨true,1,1,30101,2⟩,⟨true,1,3,30103,9⟩],[]⟩)]
def HS:ap:=aw Pg Tryz.f33 aIB aKj
def uO:OT:=tdC (ag.sub [1,1,0,1,0] (emb HS))
def v8:OT:=tdC (ag.sub [1,1,1,1,0,1,0] (emb HS))
def w5:OT:=tdC (ag.sub [1,1,1,1,1,1,1,0,1,0] (emb HS))
def Jn:PT St:=pS [sP 1,sI 4] [au 1 [(cD dL),(cD dL),xI,(cD dL),xI,xI]]
def Jl {β:Type}(g:St->β):Int->ae->ae->Int->ae->Int->Int->β:=Jn.unc g
def asQ:PT St:=pS [sl 2 (aV false [(dz 20002)]),sI 3] [dA 20002 5]
def cV {β:Type}(g:St->β):Int->ae->β:=asQ.unc g
def aoN:PT St:=pS [sP 1,sI 4,sl 21 (aV false [(cD dB)])] [au 1 [(cD dL),(cD dL),xI,(cD dL),xI,xI]]
def A0 {β:Type}(g:St->β):Int->Bool->ae->ae->Int->ae->Int->Int->β:=aoN.unc g
def I3:PT St:=pS [sP 1,sI 6] [au 1 [(cD dL),(cD dL),xI,(cD dL),xI,xI]]
def HY {β:Type}(g:St->β):Int->ae->ae->Int->ae->Int->Int->β:=I3.unc g
def asN:PT St:=pS [sP 1,sI 6,sl 56 (aV false [(cD dB)])] [au 1 [(cD dL),(cD dL),xI,(cD dL),xI,xI]]
def Aq {β:Type}(g:St->β):Int->Bool->ae->ae->Int->ae->Int->Int->β:=asN.unc g
def z8:PT St:=pS [sP 1,sl 8 (aV false [(dz 20008)]),sI 9,sP 10,sP 12] [au 1 [(cD dL),(cD dL),xI,(cD dL),xI,xI],dA 20008 5,au 10 (xs 3),au 12 [xI,xI]]
def aqx {β:Type}(g:St->β):Int->ae->ae->Int->ae->Int->Int->ae->I5 β:=z8.unc g
def asH:PT St:=pS [sP 1,sl 8 (aV false [(dz 20008)]),sI 9,sP 10,sP 12,sl 104 (aV false [(cD dB)])] [au 1 [(cD dL),(cD dL),xI,(cD dL),xI,xI],dA 20008 5,au 10 (xs 3),au 12 [xI,xI]]
def ao9 {β:Type}(g:St->β):Int->Bool->ae->ae->Int->ae->Int->Int->ae->I5 β:=asH.unc g
def Ij:PT St:=pS [sP 1,sl 8 (aV false [(dz 20008)]),sI 9] [au 1 [(cD dL),(cD dL),xI,(cD dL),xI,xI],dA 20008 5]
def IJ {β:Type}(g:St->β):Int->ae->ae->Int->ae->Int->Int->ae->β:=Ij.unc g
def amX:PT St:=pS [sP 1,sl 8 (aV false [(dz 20008)]),sI 9,sl 76 (aV false [(cD dB)])] [au 1 [(cD dL),(cD dL),xI,(cD dL),xI,xI],dA 20008 5]
def Ap {β:Type}(g:St->β):Int->Bool->ae->ae->Int->ae->Int->Int->ae->β:=amX.unc g
def adf:PT (List RV):=pRs [pR false [rO 5],wI]
def Cs {β:Type}(g:List RV->β):ae->Int->β:=adf.unc g
def acS:ag:=ag.sub [1,1,1,1,1,1,1,0,1,0,0,1,0,0,1,1,1,0] (emb HS)
abbrev Mg:Type 1:=(α:Type)->Int->ae->(Int->Int->Op α)->(Bool->Op α)->Op α
def Ng (α:Type)(a:Int)(b:ae)(k1:Int->Int->Op α)(k2:Bool->Op α):Op α:=
 cK (decide (a < ((List.length b:Nat):Int)))
 (dE b a [.int .i64,.int .i64]
 (fun c d=>k1 c d))
 (k2 (decide (a < ((List.length b:Nat):Int))))
def vc:Mg:=sld Ng
def H4 (v:Mg)(α:Type)(K:KT α):Int->ae->ae->Int->ae->Int->Int->ae->I5 (Op α):=fun a d b e g h i j l m o p q=>v α a b (fun c r=>aqx (K .normal) a d b e g h i j l m o c r) (fun c=>ao9 (K .normal) a c d b e g h i j l m o p q)
theorem ao7:∀ (α:Type) (K:KT α),H4 vc α K=z8.unc fun σ=>az Pg Ek3 wL acS K σ:=aY (fun α K=>by kernel_rfl)
def vg:ag:=ag.sub [1,1,1,1,1,1,1,0,1,0,0] (ag.put (.m [⟨z8,H4 vc⟩]) [1,1,1,1,1,1,1,0,1,0,0,1,0,0,1,1,1] (emb HS))
def vf (α:Type)(h l:ae)(m c:Int)(e:ae)(kn:Int->ae->Op α)(k1:Op α)(k2:Int->Bool->ae->Op α):Op α:=
 cK (decide (c < ((List.length h:Nat):Int)))
 (dE h c [.int .i64,.int .i64,.int .i64]
 (fun a g b=>cy α (w64 (b*m)) 1000
 (fun d=>vc α c l
 (fun j i=>cK (decide (1000000 < i))
 (k1)
 (gK (cj 5 40 e [[DC.v (.int .i64 a),DC.v (.int .i64 a),DC.v (.int .i64 j),DC.v (.int .i64 i),DC.v (.int .i64 g)]]) (kn (w64 (c+1)) (e++[[DC.v (.int .i64 a),DC.v (.int .i64 a),DC.v (.int .i64 j),DC.v (.int .i64 i),DC.v (.int .i64 g)]]))))
 (fun o=>cK (decide (1000000 < (w64 (b+d))))
 (k1)
 (gK (cj 5 40 e [[DC.v (.int .i64 a),DC.v (.int .i64 a),DC.v (.int .i64 (if (w64 (b - d)) > 0 then (w64 (b - d)) else 0)),DC.v (.int .i64 (w64 (b+d))),DC.v (.int .i64 g)]]) (kn (w64 (c+1)) (e++[[DC.v (.int .i64 a),DC.v (.int .i64 a),DC.v (.int .i64 (if (w64 (b - d)) > 0 then (w64 (b - d)) else 0)),DC.v (.int .i64 (w64 (b+d))),DC.v (.int .i64 g)]])))))))
 (k2 c (decide (c < ((List.length h:Nat):Int))) e)
def ke (α:Type)(a b:ae)(c:Int)(k1:Op α)(k2:Int->Bool->ae->Op α):Nat->Int->ae->Op α
 | 0,_,_=>none
 | n+1,d,e=>vf α a b c d e (ke α a b c k1 k2 n) k1 k2
def Lq (α:Type)(a b:ae)(c:Int)(k1:Op α)(k2:Int->Bool->ae->Op α)(d:Int)(e:ae):Op α:=ke α a b c k1 k2 aG d e
abbrev On:Type 1:=(α:Type)->ae->ae->Int->(Op α)->(Int->Bool->ae->Op α)->Int->ae->Op α
def zQ:On:=sld Lq
def Uy (v:On)(α:Type)(K:KT α):Int->ae->ae->Int->ae->Int->Int->ae->Op α:=fun d a b c e g h i=>v α a b c (cV (K .ret) 8 ([]:ae)) (fun j l m=>Ap (K (.exit 4)) j l a b c e g h m) d i
theorem apV (α:Type)(K:KT α)(Kn:SK α)(a:Int)(b c:ae)(d:Int)(g:ae)(h i:Int)(e:ae):IJ (fun σ=>az Pg Ek3 wL vg (bM (fun σ=>br w5 σ Kn) K) σ) a b c d g h i e=vf α b c d a e (fun a e=>IJ Kn a b c d g h i e) (cV (K .ret) 8 ([]:ae)) (fun j l m=>Ap (K (.exit 4)) j l b c d g h i m):=by kernel_rfl
theorem amo (α:Type)(K:KT α):∀ (n:Nat) (d:Int) (a b:ae) (c:Int) (g:ae) (h i:Int) (e:ae),ke α a b c (cV (K .ret) 8 ([]:ae)) (fun j l m=>Ap (K (.exit 4)) j l a b c g h i m) n d e=IJ (aK (az Pg Ek3 wL vg) w5 K n) d a b c g h i e:=by
 intro n
 induction n with
 | zero=>intros;rfl
 | succ n ih=>intro d a b c g h i e;exact (congrArg (fun kn=>vf α a b c d e kn (cV (K .ret) 8 ([]:ae)) (fun j l m=>Ap (K (.exit 4)) j l a b c g h i m)) (funext fun d=>funext fun e=>ih d a b c g h i e)).trans (apV α K (aK (az Pg Ek3 wL vg) w5 K n) d a b c g h i e).symm
theorem arV:∀ (α:Type) (K:KT α),Uy zQ α K=Ij.unc fun σ=>aK (az Pg Ek3 wL vg) w5 K aG σ:=aY (fun α K=>funext fun a=>funext fun b=>funext fun c=>funext fun d=>funext fun e=>funext fun g=>funext fun h=>funext fun i=>amo α K aG a b c d e g h i)
def vt:ag:=ag.sub [1,1,1,1,0,1,0,0] (emb HS)
def uA (α:Type)(b:ae)(a:Int)(kn:Int->Op α)(k1:Int->Op α)(k2:Int->Bool->Op α):Op α:=
 cK (decide (a < ((List.length b:Nat):Int)))
 (dE b a [.int .i64,.int .i64]
 (fun d e=>ML α d e 0 1000000
 (fun c=>cK (c != 0)
 (k1 c)
 (kn (w64 (a+1))))))
 (k2 a (decide (a < ((List.length b:Nat):Int))))
def qP (α:Type)(a:ae)(k1:Int->Op α)(k2:Int->Bool->Op α):Nat->Int->Op α
 | 0,_=>none
 | n+1,b=>uA α a b (qP α a k1 k2 n) k1 k2
def Ls (α:Type)(a:ae)(k1:Int->Op α)(k2:Int->Bool->Op α)(b:Int):Op α:=qP α a k1 k2 aG b
abbrev Ms:Type 1:=(α:Type)->ae->(Int->Op α)->(Int->Bool->Op α)->Int->Op α
def Ar:Ms:=sld Ls
def RY (v:Ms)(α:Type)(K:KT α):Int->ae->ae->Int->ae->Int->Int->Op α:=fun c d b e g h i=>v α b (fun a=>cV (K .ret) a ([]:ae)) (fun a j=>Aq (K (.exit 2)) a j d b e g h i) c
theorem apJ (α:Type)(K:KT α)(Kn:SK α)(a:Int)(c b:ae)(d:Int)(e:ae)(g h:Int):HY (fun σ=>az Pg Ek3 wL vt (bM (fun σ=>br v8 σ Kn) K) σ) a c b d e g h=uA α b a (fun a=>HY Kn a c b d e g h) (fun i=>cV (K .ret) i ([]:ae)) (fun i j=>Aq (K (.exit 2)) i j c b d e g h):=by kernel_rfl
theorem asZ (α:Type)(K:KT α):∀ (n:Nat) (b:Int) (d a:ae) (e:Int) (g:ae) (h i:Int),qP α a (fun c=>cV (K .ret) c ([]:ae)) (fun c j=>Aq (K (.exit 2)) c j d a e g h i) n b=HY (aK (az Pg Ek3 wL vt) v8 K n) b d a e g h i:=by
 intro n
 induction n with
 | zero=>intros;rfl
 | succ n ih=>intro b d a e g h i;exact (congrArg (fun kn=>uA α a b kn (fun c=>cV (K .ret) c ([]:ae)) (fun c j=>Aq (K (.exit 2)) c j d a e g h i)) (funext fun b=>ih b d a e g h i)).trans (apJ α K (aK (az Pg Ek3 wL vt) v8 K n) b d a e g h i).symm
theorem ao0:∀ (α:Type) (K:KT α),RY Ar α K=I3.unc fun σ=>aK (az Pg Ek3 wL vt) v8 K aG σ:=aY (fun α K=>funext fun a=>funext fun b=>funext fun c=>funext fun d=>funext fun e=>funext fun g=>funext fun h=>asZ α K aG a b c d e g h)
def ut:ag:=ag.sub [1,1,0,1,0,0] (emb HS)
def t6 (α:Type)(b:ae)(a:Int)(kn:Int->Op α)(k1:Op α)(k2:Int->Bool->Op α):Op α:=
 cK (decide (a < ((List.length b:Nat):Int)))
 (dE b a [.int .i64,.int .i64,.int .i64]
 (fun c d e=>cS α c 5000 80000
 (fun g=>cK (!g)
 (k1)
 (cS α d 0 80000
 (fun h=>cK (!h)
 (k1)
 (cS α e 0 1000000
 (fun i=>cK (!i)
 (k1)
 (kn (w64 (a+1))))))))))
 (k2 a (decide (a < ((List.length b:Nat):Int))))
def qr (α:Type)(a:ae)(k1:Op α)(k2:Int->Bool->Op α):Nat->Int->Op α
 | 0,_=>none
 | n+1,b=>t6 α a b (qr α a k1 k2 n) k1 k2
def Ln (α:Type)(a:ae)(k1:Op α)(k2:Int->Bool->Op α)(b:Int):Op α:=qr α a k1 k2 aG b
def zS:zL:=sld Ln
def Zr (v:zL)(α:Type)(K:KT α):Int->ae->ae->Int->ae->Int->Int->Op α:=fun b a c d e g h=>v α a (cV (K .ret) 2 ([]:ae)) (fun i j=>A0 (K (.exit 0)) i j a c d e g h) b
theorem amW (α:Type)(K:KT α)(Kn:SK α)(a:Int)(b c:ae)(d:Int)(e:ae)(g h:Int):Jl (fun σ=>az Pg Ek3 wL ut (bM (fun σ=>br uO σ Kn) K) σ) a b c d e g h=t6 α b a (fun a=>Jl Kn a b c d e g h) (cV (K .ret) 2 ([]:ae)) (fun i j=>A0 (K (.exit 0)) i j b c d e g h):=by kernel_rfl
theorem amF (α:Type)(K:KT α):∀ (n:Nat) (b:Int) (a c:ae) (d:Int) (e:ae) (g h:Int),qr α a (cV (K .ret) 2 ([]:ae)) (fun i j=>A0 (K (.exit 0)) i j a c d e g h) n b=Jl (aK (az Pg Ek3 wL ut) uO K n) b a c d e g h:=by
 intro n
 induction n with
 | zero=>intros;rfl
 | succ n ih=>intro b a c d e g h;exact (congrArg (fun kn=>t6 α a b kn (cV (K .ret) 2 ([]:ae)) (fun i j=>A0 (K (.exit 0)) i j a c d e g h)) (funext fun b=>ih b a c d e g h)).trans (amW α K (aK (az Pg Ek3 wL ut) uO K n) b a c d e g h).symm
theorem ari:∀ (α:Type) (K:KT α),Zr zS α K=Jn.unc fun σ=>aK (az Pg Ek3 wL ut) uO K aG σ:=aY (fun α K=>funext fun a=>funext fun b=>funext fun c=>funext fun d=>funext fun e=>funext fun g=>funext fun h=>amF α K aG a b c d e g h)
abbrev KG:Type 1:=(α:Type)->ae->ae->Int->(ae->Int->Op α)->Op α
def acu (α:Type)(a b:ae)(c:Int)(k1:ae->Int->Op α):Op α:=
 cK (decide (40 < ((List.length a:Nat):Int)))
 (k1 ([]:ae) 8)
 (zS α a
 (k1 ([]:ae) 2)
 (fun h i=>cK (decide (((List.length a:Nat):Int) < ((List.length b:Nat):Int)))
 (k1 ([]:ae) 12)
 (Ar α b
 (fun d=>k1 ([]:ae) d)
 (fun j l=>cS α c 0 1000
 (fun e=>cK (!e)
 (k1 ([]:ae) 2)
 (zQ α a b c
 (k1 ([]:ae) 8)
 (fun m o g=>k1 g 0) 0 ([]:ae)))) 0)) 0)
def MQ:KG:=sld acu
def agr (v:KG)(α:Type)(k:RT α):ae->ae->Int->ae->Int->Int->Op α:=fun a b c g h i=>v α a b c (fun d e=>Cs k d e)
def azF:ag:=(ag.put (.m [⟨Jn,Zr zS⟩]) [1,1,0,1,0] (ag.put (.m [⟨I3,RY Ar⟩]) [1,1,1,1,0,1,0] (ag.put (.m [⟨Ij,Uy zQ⟩]) [1,1,1,1,1,1,1,0,1,0] (ag.put (.m [⟨z8,H4 vc⟩]) [1,1,1,1,1,1,1,0,1,0,0,1,0,0,1,1,1] (emb HS)))))
theorem axt:ak Pg 33 126 ⟨fx,agr MQ⟩:=iZ ek3 (ah Tryz.func33 (by kernel_rfl)) wL azF ((an _ _).trans ((an _ _).trans ((an _ _).trans ((an _ _).trans (aA _))))) (aZ (td:=uO) (by kernel_rfl) (aZ (td:=v8) (by kernel_rfl) (aZ (td:=w5) (by kernel_rfl) (aL (by kernel_rfl) (aD HS) ⟨ao7,trivial⟩) ⟨arV,trivial⟩) ⟨ao0,trivial⟩) ⟨ari,trivial⟩) fun _ _=>by kernel_rfl
def aCB:SG:=[(9,iS 4),(10,iS 4),(15,iS 2),(18,iS 2),(20,iS 2),(25,iS 8),(27,iS 2),(30,iS 2),(33,iS 2),(35,iS 2),(40,iS 8),(42,iS 2)]
def aEu:TG:=[tT 0 [1,2,4],tT 1 [1,2,4,6],tT 2 [2,4,6,13],tT 3 [2,4,6,7],tT 4 [2,4,6],tT 5 [4,5],tT 6 [2,4,6,8],tT 7 [2,4,6],tT 8 [4,5]]
def aHs:ap:=aw Pg Tryz.f120 aEu aC
def ZU:PT (List RV):=pRs [pR true [rD (dI .i64),rD (dI .i64),rD (dI .i64),rD (dI .i64),rD (dI .i64),rD (dI .i64),rD (dI .i64),rD (dI .i64)],pR false [rD dB]]
def aac {β:Type}(g:List RV->β):Int->Int->Int->Int->Int->Int->Int->Int->Bool->β:=ZU.unc g
abbrev Uz:Type 1:=(α:Type)->Int->Int->Int->Int->Int->(I4 (Bool->Op α))->Op α
def X5 (α:Type)(a b c d e:Int)(k1:I4 (Bool->Op α)):Op α:=
 cK (e == 1)
 (yH α a b
 (fun g h=>pI α a b
 (fun i=>k1 g d h c i)))
 (yH α c d
 (fun j l=>pI α c d
 (fun m=>k1 b j a l m)))
def jX:Uz:=sld X5
def TZ:PT (List DV):=pA [pV true [(dI .i64),(dI .i64),(dI .i64),(dI .i64)],vI]
def Uu (v:Uz)(α:Type)(k:RT α):I5 (Op α):=fun a b c d e=>v α a b c d e (fun g h i j l=>aac k a g c h i b j d l)
theorem auY:ak Pg 120 44 ⟨TZ,Uu jX⟩:=iP ek3 aHs (ah Tryz.func120 (by kernel_rfl)) aCB fun _ _=>by kernel_rfl
def aG0:TG:=[tT 0 [0],tT 1 [3],tT 2 [3,4],tT 3 [4,5],tT 4 [4,6],tT 5 [6,23,24],tT 6 [6,23,24,25],tT 7 [6,23,24],tT 8 [6,23,24],tT 9 [2]]
def aEp:TG:=[tT 6 [6,23,24]]
def WW:ap:=aw Pg Tryz.f256 aG0 aEp
def pg:OT:=tdC (ag.sub [1,1,1,1,1,0,1,0] (emb WW))
def D1:PT St:=pS [sI 6,sI 23,sI 24] []
def Dk {β:Type}(g:St->β):Int->Int->Int->β:=D1.unc g
def ac9:PT St:=pS [sI 6,sI 23,sI 24,sl 25 (aV false [(cD dB)])] []
def wt {β:Type}(g:St->β):Int->Int->Int->Bool->β:=ac9.unc g
def p6:ag:=ag.sub [1,1,1,1,1,0,1,0,0] (emb WW)
def pU (α:Type)(c b a:Int)(kn:Int->Int->Op α)(k1:Int->Int->Bool->Op α):Op α:=
 cK (decide (a < c))
 (cB α (w64 (b*b)) 1073741824
 (fun d=>kn d (w64 (a+1))))
 (k1 b a (decide (a < c)))
def lD (α:Type)(a:Int)(k1:Int->Int->Bool->Op α):Nat->Int->Int->Op α
 | 0,_,_=>none
 | n+1,b,c=>pU α a b c (lD α a k1 n) k1
def Fc (α:Type)(a:Int)(k1:Int->Int->Bool->Op α)(b c:Int):Op α:=lD α a k1 aG b c
def tg:gp:=sld Fc
def Mf (v:gp)(α:Type)(K:KT α):Int->Int->Int->Op α:=fun b a c=>v α a (fun d e g=>wt (K (.exit 0)) d a e g) b c
theorem akS (α:Type)(K:KT α)(Kn:SK α)(a b c:Int):Dk (fun σ=>az Pg Ek3 aN p6 (bM (fun σ=>br pg σ Kn) K) σ) a b c=pU α b a c (fun a c=>Dk Kn a b c) (fun d e g=>wt (K (.exit 0)) d b e g):=by kernel_rfl
theorem afb (α:Type)(K:KT α):∀ (n:Nat) (b a c:Int),lD α a (fun d e g=>wt (K (.exit 0)) d a e g) n b c=Dk (aK (az Pg Ek3 aN p6) pg K n) b a c:=by
 intro n
 induction n with
 | zero=>intros;rfl
 | succ n ih=>intro b a c;exact (congrArg (fun kn=>pU α a b c kn (fun d e g=>wt (K (.exit 0)) d a e g)) (funext fun b=>funext fun c=>ih b a c)).trans (akS α K (aK (az Pg Ek3 aN p6) pg K n) b a c).symm
theorem ahE:∀ (α:Type) (K:KT α),Mf tg α K=D1.unc fun σ=>aK (az Pg Ek3 aN p6) pg K aG σ:=aY (fun α K=>funext fun a=>funext fun b=>funext fun c=>afb α K aG a b c)
def S8 (α:Type)(b:Int)(k1:Int->Op α):Op α:=
 yK α (w64 (Int.tdiv (w64 ((w64 (256*b))*62831853)) 10000000))
 (fun a=>gK (decide (0<=a)) (cB α (w64 ((Int.fdiv (w64 (Int.tdiv (w64 ((w64 (256*b))*62831853)) 10000000)) (2 ^ (min (Int.toNat a) 64)))*(Int.fdiv (w64 (Int.tdiv (w64 ((w64 (256*b))*62831853)) 10000000)) (2 ^ (min (Int.toNat a) 64))))) 2147483648
 (fun c=>tg α a
 (fun d e g=>k1 d) (w64 ((w64 (1073741824 - (Int.fdiv (w64 (Int.tdiv (w64 ((w64 (256*b))*62831853)) 10000000)) (2 ^ (min (Int.toNat a) 64)))))+c)) 0)))
def yp:ch:=sld S8
def Wq (v:ch)(α:Type)(k:RT α):Int->Op α:=fun a=>v α a (fun b=>aQ k b)
def amI:ag:=(ag.put (.m [⟨D1,Mf tg⟩]) [1,1,1,1,1,0,1,0] (emb WW))
theorem aoi:ak Pg 256 32 ⟨aU,Wq yp⟩:=iZ ek3 (ah Tryz.func256 (by kernel_rfl)) aN amI ((an _ _).trans (aA _)) (aZ (td:=pg) (by kernel_rfl) (aD WW) ⟨ahE,trivial⟩) fun _ _=>by kernel_rfl
def aDf:TG:=[tT 0 [0],tT 1 [3],tT 2 [3,4],tT 3 [4,5],tT 4 [4,6],tT 5 [6,31,32],tT 6 [6,31,32,33],tT 7 [6,31,32],tT 8 [6,31,32],tT 9 [2]]
def az8:TG:=[tT 6 [6,31,32]]
def Y3:ap:=aw Pg Tryz.f255 aDf az8
def oK:OT:=tdC (ag.sub [1,1,1,1,1,0,1,0] (emb Y3))
def BG:PT St:=pS [sI 6,sI 31,sI 32] []
def D5 {β:Type}(g:St->β):Int->Int->Int->β:=BG.unc g
def akt:PT St:=pS [sI 6,sI 31,sI 32,sl 33 (aV false [(cD dB)])] []
def u0 {β:Type}(g:St->β):Int->Int->Int->Bool->β:=akt.unc g
def qE:ag:=ag.sub [1,1,1,1,1,0,1,0,0] (emb Y3)
def pB (α:Type)(c b a:Int)(kn:Int->Int->Op α)(k1:Int->Int->Bool->Op α):Op α:=
 cK (decide (a < c))
 (kn (w64 (Int.tdiv (w64 (b*b)) 1073741824)) (w64 (a+1)))
 (k1 b a (decide (a < c)))
def l9 (α:Type)(a:Int)(k1:Int->Int->Bool->Op α):Nat->Int->Int->Op α
 | 0,_,_=>none
 | n+1,b,c=>pB α a b c (l9 α a k1 n) k1
def G0 (α:Type)(a:Int)(k1:Int->Int->Bool->Op α)(b c:Int):Op α:=l9 α a k1 aG b c
def sS:gp:=sld G0
def LQ (v:gp)(α:Type)(K:KT α):Int->Int->Int->Op α:=fun b a c=>v α a (fun d e g=>u0 (K (.exit 0)) d a e g) b c
theorem agF (α:Type)(K:KT α)(Kn:SK α)(a b c:Int):D5 (fun σ=>az Pg Ek3 aN qE (bM (fun σ=>br oK σ Kn) K) σ) a b c=pB α b a c (fun a c=>D5 Kn a b c) (fun d e g=>u0 (K (.exit 0)) d b e g):=by kernel_rfl
theorem acg (α:Type)(K:KT α):∀ (n:Nat) (b a c:Int),l9 α a (fun d e g=>u0 (K (.exit 0)) d a e g) n b c=D5 (aK (az Pg Ek3 aN qE) oK K n) b a c:=by
 intro n
 induction n with
 | zero=>intros;rfl
 | succ n ih=>intro b a c;exact (congrArg (fun kn=>pB α a b c kn (fun d e g=>u0 (K (.exit 0)) d a e g)) (funext fun b=>funext fun c=>ih b a c)).trans (agF α K (aK (az Pg Ek3 aN qE) oK K n) b a c).symm
theorem ajL:∀ (α:Type) (K:KT α),LQ sS α K=BG.unc fun σ=>aK (az Pg Ek3 aN qE) oK K aG σ:=aY (fun α K=>funext fun a=>funext fun b=>funext fun c=>acg α K aG a b c)
def Se (α:Type)(d:Int)(k1:Int->Op α):Op α:=
 cB α (w64 ((w64 (256*d))*62831854)) 10000000
 (fun c=>yK α c
 (fun b=>gK (decide (0<=b)) (cB α c (w64 (1*2 ^ (min (Int.toNat b) 64)))
 (fun a=>cB α (w64 ((w64 (a*a))*a)) 6917529027641081856
 (fun e=>sS α b
 (fun g h i=>k1 g) (w64 ((w64 ((w64 (1073741824 - a))+(w64 (Int.tdiv (w64 (a*a)) 2147483648)))) - e)) 0)))))
def CB:ch:=sld Se
def UX (v:ch)(α:Type)(k:RT α):Int->Op α:=fun a=>v α a (fun b=>aQ k b)
def aux:ag:=(ag.put (.m [⟨BG,LQ sS⟩]) [1,1,1,1,1,0,1,0] (emb Y3))
theorem arZ:ak Pg 255 40 ⟨aU,UX CB⟩:=iZ ek3 (ah Tryz.func255 (by kernel_rfl)) aN aux ((an _ _).trans (aA _)) (aZ (td:=oK) (by kernel_rfl) (aD Y3) ⟨ajL,trivial⟩) fun _ _=>by kernel_rfl
def aFv:SG:=[(7,iS 2),(8,iS 2),(10,iS 2),(14,iT),(19,iT)]
def aFo:TG:=[tT 0 [2,3,4],tT 1 [4,5],tT 2 [4,5,6],tT 3 [4]]
def aDk:ap:=aw Pg Tryz.f285 aFo aC
def TT (α:Type)(d e g h:Int)(k1:Int->Int->Op α):Op α:=
 xl α d e g h
 (fun b c=>jq α b c
 (fun i=>eD α i
 (fun a=>gK (a != 0) (gK (a != 0) (k1 (w64 (Int.tdiv (w64 (b*67108864)) a)) (w64 (Int.tdiv (w64 (c*67108864)) a)))))))
def Dy:fT:=sld TT
def P6 (v:fT)(α:Type)(k:RT α):I4 (Op α):=fun a b c d=>v α a b c d (fun e g=>bt k e g)
theorem as9:ak Pg 285 24 ⟨fP,P6 Dy⟩:=iP ek3 aDk (ah Tryz.func285 (by kernel_rfl)) aFv fun _ _=>by kernel_rfl
def aCv:TG:=[tT 0 [0,1,2],tT 1 [0,1,2,20],tT 2 [0,1,2],tT 3 [0,1,2,24],tT 4 [0,1,2],tT 5 [0,1,2,27],tT 6 [6,7],tT 7 [0,1,2,8],tT 8 [0,1,2,8],tT 9 [0,1,2,8,9],tT 10 [0,1,2,8,9,10],tT 11 [1,2,8,9,10,11],tT 12 [2,8,9,10,11,12],tT 13 [2,8,9,10,11,12,13],tT 14 [2,8,9,10,11,13,14],tT 15 [2,8,9,10,11,13,14,15],tT 16 [2,8,9,10,11,13,14,15,16],tT 17 [2,8,9,10,11,13,14,15,16,78],tT 18 [2,8,9,10,11,13,14,15,16],tT 19 [2,8,9,10,11,13,14,15,16],tT 20 [2,8,9,10,11,13,14,15,16,85],tT 21 [2,8,9,10,14,15,17],tT 22 [2,8,9,10,14,15,17,18],tT 23 [2,8,9,10,14,15,16,17,18],tT 24 [2,8,9,10,14,15,16,17,18,113],tT 25 [2,8,9,10,14,15,16,17,18],tT 26 [2,8,9,10,14,15,16,17,18],tT 27 [2,8,9,10,14,15,16,17,18,120],tT 28 [6,7]]
def aGm:TG:=[tT 17 [2,8,9,10,11,13,14,15,16],tT 24 [2,8,9,10,14,15,16,17,18]]
def rc:ap:=aw Pg Tryz.f234 aCv aGm
def oF:OT:=tdC (ag.sub [1,1,1,1,1,1,1,1,1,1,1,1,1,1,0,0] (emb rc))
def pp:OT:=tdC (ag.sub [1,1,1,1,1,1,1,1,1,1,1,1,1,1,1,1,1,1,0,0] (emb rc))
def fH:PT St:=pS [sl 2 (aV false [(cD (dI .u64))]),sl 8 (aV false [(cD (dI .u64))]),sl 9 (aV false [(cD (dI .u64))]),sl 10 (aV false [(cD (dI .u64))]),sl 11 (aV false [(cD (dI .u64))]),sl 13 (aV false [(cD (dI .u64))]),sl 14 (aV false [(cD (dI .u64))]),sl 15 (aV false [(cD (dI .u64))]),sl 16 (aV false [(cD (dI .u64))])] []
def B2 {β:Type}(g:St->β):I9 β:=fH.unc g
def aic:PT St:=pS [sl 2 (aV false [(cD (dI .u64))]),sl 8 (aV false [(cD (dI .u64))]),sl 9 (aV false [(cD (dI .u64))]),sl 10 (aV false [(cD (dI .u64))]),sl 11 (aV false [(cD (dI .u64))]),sl 13 (aV false [(cD (dI .u64))]),sl 14 (aV false [(cD (dI .u64))]),sl 15 (aV false [(cD (dI .u64))]),sl 16 (aV false [(cD (dI .u64))]),sl 78 (aV false [(cD dB)])] []
def jY {β:Type}(g:St->β):Int->Int->Int->Int->Int->Int->Int->Int->Int->Bool->β:=aic.unc g
def ako:PT St:=pS [sl 2 (aV false [(cD (dI .u64))]),sl 8 (aV false [(cD (dI .u64))]),sl 9 (aV false [(cD (dI .u64))]),sl 10 (aV false [(cD (dI .u64))]),sl 11 (aV false [(cD (dI .u64))]),sl 13 (aV false [(cD (dI .u64))]),sl 14 (aV false [(cD (dI .u64))]),sl 15 (aV false [(cD (dI .u64))]),sl 16 (aV false [(cD (dI .u64))]),sl 85 (aV false [(cD dB)])] []
def pq {β:Type}(g:St->β):Int->Int->Int->Int->Int->Int->Int->Int->Int->Bool->β:=ako.unc g
def fF:PT St:=pS [sl 2 (aV false [(cD (dI .u64))]),sl 8 (aV false [(cD (dI .u64))]),sl 9 (aV false [(cD (dI .u64))]),sl 10 (aV false [(cD (dI .u64))]),sl 14 (aV false [(cD (dI .u64))]),sl 15 (aV false [(cD (dI .u64))]),sl 16 (aV false [(cD (dI .u64))]),sl 17 (aV false [(cD (dI .u64))]),sl 18 (aV false [(cD (dI .u64))])] []
def CS {β:Type}(g:St->β):I9 β:=fF.unc g
def ag8:PT St:=pS [sl 2 (aV false [(cD (dI .u64))]),sl 8 (aV false [(cD (dI .u64))]),sl 9 (aV false [(cD (dI .u64))]),sl 10 (aV false [(cD (dI .u64))]),sl 14 (aV false [(cD (dI .u64))]),sl 15 (aV false [(cD (dI .u64))]),sl 16 (aV false [(cD (dI .u64))]),sl 17 (aV false [(cD (dI .u64))]),sl 18 (aV false [(cD (dI .u64))]),sl 113 (aV false [(cD dB)])] []
def jZ {β:Type}(g:St->β):Int->Int->Int->Int->Int->Int->Int->Int->Int->Bool->β:=ag8.unc g
def ah2:PT St:=pS [sl 2 (aV false [(cD (dI .u64))]),sl 8 (aV false [(cD (dI .u64))]),sl 9 (aV false [(cD (dI .u64))]),sl 10 (aV false [(cD (dI .u64))]),sl 14 (aV false [(cD (dI .u64))]),sl 15 (aV false [(cD (dI .u64))]),sl 16 (aV false [(cD (dI .u64))]),sl 17 (aV false [(cD (dI .u64))]),sl 18 (aV false [(cD (dI .u64))]),sl 120 (aV false [(cD dB)])] []
def nI {β:Type}(g:St->β):Int->Int->Int->Int->Int->Int->Int->Int->Int->Bool->β:=ah2.unc g
def abR:ag:=ag.sub [1,1,1,1,1,1,1,1,1,1,1,1,1,1,1,1,1,1,0,0,0,0] (emb rc)
abbrev qV:Type 1:=(α:Type)->Int->Int->Int->Int->(Bool->Op α)->(Bool->Op α)->Op α
def E6 (α:Type)(b c d a:Int)(k1:Bool->Op α)(k2:Bool->Op α):Op α:=
 cK (decide (4294967296<=a))
 (k1 true)
 (cK (decide ((IntKind.wrap .u64 ((IntKind.wrap .u64 (4294967296*d))+c)) < (IntKind.wrap .u64 (a*b))))
 (k1 (decide ((IntKind.wrap .u64 ((IntKind.wrap .u64 (4294967296*d))+c)) < (IntKind.wrap .u64 (a*b)))))
 (k2 (decide ((IntKind.wrap .u64 ((IntKind.wrap .u64 (4294967296*d))+c)) < (IntKind.wrap .u64 (a*b))))))
def lJ:qV:=sld E6
def wy (v:qV)(α:Type)(K:KT α):I9 (Op α):=fun g h i a b j c l d=>v α a b c d (fun e=>jZ (K .normal) g h i a b j c l d e) (fun e=>jZ (K (.exit 2)) g h i a b j c l d e)
theorem ae3:∀ (α:Type) (K:KT α),wy lJ α K=fF.unc fun σ=>az Pg Ek3 aN abR K σ:=aY (fun α K=>by kernel_rfl)
def pW:ag:=ag.sub [1,1,1,1,1,1,1,1,1,1,1,1,1,1,1,1,1,1,0,0,0] (ag.put (.m [⟨fF,wy lJ⟩]) [1,1,1,1,1,1,1,1,1,1,1,1,1,1,1,1,1,1,0,0,0] (emb rc))
def tO (α:Type)(b d e a c:Int)(kn:Int->Int->Op α)(k1:Int->Int->Bool->Op α)(k2:Int->Int->Bool->Op α):Op α:=
 lJ α d e a c
 (fun h=>cK (decide (4294967296<=(IntKind.wrap .u64 (a+b))))
 (k1 (IntKind.wrap .u64 (a+b)) (IntKind.wrap .u64 (c - 1)) (decide (4294967296<=(IntKind.wrap .u64 (a+b)))))
 (kn (IntKind.wrap .u64 (a+b)) (IntKind.wrap .u64 (c - 1))))
 (fun g=>k2 a c g)
def l8 (α:Type)(a b c:Int)(k1:Int->Int->Bool->Op α)(k2:Int->Int->Bool->Op α):Nat->Int->Int->Op α
 | 0,_,_=>none
 | n+1,d,e=>tO α a b c d e (l8 α a b c k1 k2 n) k1 k2
def Gw (α:Type)(a b c:Int)(k1:Int->Int->Bool->Op α)(k2:Int->Int->Bool->Op α)(d e:Int):Op α:=l8 α a b c k1 k2 aG d e
abbrev qU:Type 1:=(α:Type)->Int->Int->Int->(Int->Int->Bool->Op α)->(Int->Int->Bool->Op α)->Int->Int->Op α
def nS:qU:=sld Gw
def Ef (v:qU)(α:Type)(K:KT α):I9 (Op α):=fun h i a b c j m l o=>v α a b c (fun d e g=>nI (K (.exit 2)) h i a b c j d l e g) (fun d e g=>jZ (K (.exit 2)) h i a b c j d l e g) m o
theorem aeh (α:Type)(K:KT α)(Kn:SK α)(d e a b c g h i j:Int):CS (fun σ=>az Pg Ek3 aN pW (bM (fun σ=>br pp σ Kn) K) σ) d e a b c g h i j=tO α a b c h j (fun h j=>CS Kn d e a b c g h i j) (fun l m o=>nI (K (.exit 2)) d e a b c g l i m o) (fun l m o=>jZ (K (.exit 2)) d e a b c g l i m o):=by kernel_rfl
theorem amg (α:Type)(K:KT α):∀ (n:Nat) (d e a b c g i h j:Int),l8 α a b c (fun l m o=>nI (K (.exit 2)) d e a b c g l h m o) (fun l m o=>jZ (K (.exit 2)) d e a b c g l h m o) n i j=CS (aK (az Pg Ek3 aN pW) pp K n) d e a b c g i h j:=by
 intro n
 induction n with
 | zero=>intros;rfl
 | succ n ih=>intro d e a b c g i h j;exact (congrArg (fun kn=>tO α a b c i j kn (fun l m o=>nI (K (.exit 2)) d e a b c g l h m o) (fun l m o=>jZ (K (.exit 2)) d e a b c g l h m o)) (funext fun i=>funext fun j=>ih d e a b c g i h j)).trans (aeh α K (aK (az Pg Ek3 aN pW) pp K n) d e a b c g i h j).symm
theorem akn:∀ (α:Type) (K:KT α),Ef nS α K=fF.unc fun σ=>aK (az Pg Ek3 aN pW) pp K aG σ:=aY (fun α K=>funext fun a=>funext fun b=>funext fun c=>funext fun d=>funext fun e=>funext fun g=>funext fun h=>funext fun i=>funext fun j=>amg α K aG a b c d e g h i j)
def ZG:ag:=ag.sub [1,1,1,1,1,1,1,1,1,1,1,1,1,1,1,1,1,1,0] (ag.put (.m [⟨fF,Ef nS⟩]) [1,1,1,1,1,1,1,1,1,1,1,1,1,1,1,1,1,1,0,0] (ag.put (.m [⟨fF,wy lJ⟩]) [1,1,1,1,1,1,1,1,1,1,1,1,1,1,1,1,1,1,0,0,0] (emb rc)))
abbrev qk:Type 1:=(α:Type)->Int->Int->Int->Int->Int->(Int->Int->Bool->Op α)->(Int->Int->Bool->Op α)->Op α
def FC (α:Type)(a b c d e:Int)(k1:Int->Int->Bool->Op α)(k2:Int->Int->Bool->Op α):Op α:=
 nS α a b c
 (fun g h i=>k1 g h i)
 (fun j l m=>k2 j l m) d e
def jT:qk:=sld FC
def Lx (v:qk)(α:Type)(K:KT α):I9 (Op α):=fun h i a b c j m l o=>v α a b c m o (fun d e g=>nI (K .normal) h i a b c j d l e g) (fun d e g=>jZ (K .normal) h i a b c j d l e g)
theorem act:∀ (α:Type) (K:KT α),Lx jT α K=fF.unc fun σ=>az Pg Ek3 aN ZG K σ:=aY (fun α K=>by kernel_rfl)
def Z8:ag:=ag.sub [1,1,1,1,1,1,1,1,1,1,1,1,1,1,0,0,0,0] (emb rc)
def He (α:Type)(b c a d:Int)(k1:Bool->Op α)(k2:Bool->Op α):Op α:=
 cK (decide (4294967296<=a))
 (k1 true)
 (cK (decide ((IntKind.wrap .u64 ((IntKind.wrap .u64 (4294967296*d))+c)) < (IntKind.wrap .u64 (a*b))))
 (k1 (decide ((IntKind.wrap .u64 ((IntKind.wrap .u64 (4294967296*d))+c)) < (IntKind.wrap .u64 (a*b)))))
 (k2 (decide ((IntKind.wrap .u64 ((IntKind.wrap .u64 (4294967296*d))+c)) < (IntKind.wrap .u64 (a*b))))))
def lp:qV:=sld He
def vi (v:qV)(α:Type)(K:KT α):I9 (Op α):=fun g h i a j b l c d=>v α a b c d (fun e=>jY (K .normal) g h i a j b l c d e) (fun e=>jY (K (.exit 0)) g h i a j b l c d e)
theorem ac5:∀ (α:Type) (K:KT α),vi lp α K=fH.unc fun σ=>az Pg Ek3 aN Z8 K σ:=aY (fun α K=>by kernel_rfl)
def qc:ag:=ag.sub [1,1,1,1,1,1,1,1,1,1,1,1,1,1,0,0,0] (ag.put (.m [⟨fH,vi lp⟩]) [1,1,1,1,1,1,1,1,1,1,1,1,1,1,0,0,0] (emb rc))
def sT (α:Type)(b d e c a:Int)(kn:Int->Int->Op α)(k1:Int->Int->Bool->Op α)(k2:Int->Int->Bool->Op α):Op α:=
 lp α d e c a
 (fun h=>cK (decide (4294967296<=(IntKind.wrap .u64 (a+b))))
 (k1 (IntKind.wrap .u64 (c - 1)) (IntKind.wrap .u64 (a+b)) (decide (4294967296<=(IntKind.wrap .u64 (a+b)))))
 (kn (IntKind.wrap .u64 (c - 1)) (IntKind.wrap .u64 (a+b))))
 (fun g=>k2 c a g)
def lE (α:Type)(a b c:Int)(k1:Int->Int->Bool->Op α)(k2:Int->Int->Bool->Op α):Nat->Int->Int->Op α
 | 0,_,_=>none
 | n+1,d,e=>sT α a b c d e (lE α a b c k1 k2 n) k1 k2
def GK (α:Type)(a b c:Int)(k1:Int->Int->Bool->Op α)(k2:Int->Int->Bool->Op α)(d e:Int):Op α:=lE α a b c k1 k2 aG d e
def pF:qU:=sld GK
def DB (v:qU)(α:Type)(K:KT α):I9 (Op α):=fun h i a b j c l m o=>v α a b c (fun d e g=>pq (K (.exit 0)) h i a b j c l d e g) (fun d e g=>jY (K (.exit 0)) h i a b j c l d e g) m o
theorem aec (α:Type)(K:KT α)(Kn:SK α)(d e a b g c h i j:Int):B2 (fun σ=>az Pg Ek3 aN qc (bM (fun σ=>br oF σ Kn) K) σ) d e a b g c h i j=sT α a b c i j (fun i j=>B2 Kn d e a b g c h i j) (fun l m o=>pq (K (.exit 0)) d e a b g c h l m o) (fun l m o=>jY (K (.exit 0)) d e a b g c h l m o):=by kernel_rfl
theorem aci (α:Type)(K:KT α):∀ (n:Nat) (d e a b g c h i j:Int),lE α a b c (fun l m o=>pq (K (.exit 0)) d e a b g c h l m o) (fun l m o=>jY (K (.exit 0)) d e a b g c h l m o) n i j=B2 (aK (az Pg Ek3 aN qc) oF K n) d e a b g c h i j:=by
 intro n
 induction n with
 | zero=>intros;rfl
 | succ n ih=>intro d e a b g c h i j;exact (congrArg (fun kn=>sT α a b c i j kn (fun l m o=>pq (K (.exit 0)) d e a b g c h l m o) (fun l m o=>jY (K (.exit 0)) d e a b g c h l m o)) (funext fun i=>funext fun j=>ih d e a b g c h i j)).trans (aec α K (aK (az Pg Ek3 aN qc) oF K n) d e a b g c h i j).symm
theorem aex:∀ (α:Type) (K:KT α),DB pF α K=fH.unc fun σ=>aK (az Pg Ek3 aN qc) oF K aG σ:=aY (fun α K=>funext fun a=>funext fun b=>funext fun c=>funext fun d=>funext fun e=>funext fun g=>funext fun h=>funext fun i=>funext fun j=>aci α K aG a b c d e g h i j)
def Z5:ag:=ag.sub [1,1,1,1,1,1,1,1,1,1,1,1,1,1,0] (ag.put (.m [⟨fH,DB pF⟩]) [1,1,1,1,1,1,1,1,1,1,1,1,1,1,0,0] (ag.put (.m [⟨fH,vi lp⟩]) [1,1,1,1,1,1,1,1,1,1,1,1,1,1,0,0,0] (emb rc)))
def Fj (α:Type)(a b c d e:Int)(k1:Int->Int->Bool->Op α)(k2:Int->Int->Bool->Op α):Op α:=
 pF α a b c
 (fun g h i=>k1 g h i)
 (fun j l m=>k2 j l m) d e
def pb:qk:=sld Fj
def MB (v:qk)(α:Type)(K:KT α):I9 (Op α):=fun h i a b j c l m o=>v α a b c m o (fun d e g=>pq (K .normal) h i a b j c l d e g) (fun d e g=>jY (K .normal) h i a b j c l d e g)
theorem ame:∀ (α:Type) (K:KT α),MB pb α K=fH.unc fun σ=>az Pg Ek3 aN Z5 K σ:=aY (fun α K=>by kernel_rfl)
def YO (α:Type)(d c b:Int)(k1:Int->Int->Op α):Op α:=
 cK (b == 0)
 (none)
 (cK (decide (b<=d))
 (none)
 (cK (d == 0)
 (gK (b != 0) (gK (b != 0) (k1 (IntKind.wrap .u64 (Int.tdiv c b)) (Int.tmod c b))))
 (BV α b
 (fun a=>gK (decide (0<=(IntKind.wrap .u64 (a)))) (gK (decide (0<=(IntKind.wrap .u64 (a)))) (gK (decide (0<=(IntKind.wrap .u64 (64 - (IntKind.wrap .u64 (a)))))) (gK (decide (0<=(IntKind.wrap .u64 (a)))) (gK ((Int.fdiv (IntKind.wrap .u64 (b*2 ^ (min (Int.toNat (IntKind.wrap .u64 (a))) 64))) (2 ^ 32)) != 0) (pb α (Int.fdiv (IntKind.wrap .u64 (b*2 ^ (min (Int.toNat (IntKind.wrap .u64 (a))) 64))) (2 ^ 32)) (mL .u64 (IntKind.wrap .u64 (b*2 ^ (min (Int.toNat (IntKind.wrap .u64 (a))) 64))) 4294967295) (Int.fdiv (IntKind.wrap .u64 (c*2 ^ (min (Int.toNat (IntKind.wrap .u64 (a))) 64))) (2 ^ 32)) (IntKind.wrap .u64 (Int.tdiv (iOr .u64 (IntKind.wrap .u64 (d*2 ^ (min (Int.toNat (IntKind.wrap .u64 (a))) 64))) (Int.fdiv c (2 ^ (min (Int.toNat (IntKind.wrap .u64 (64 - (IntKind.wrap .u64 (a))))) 64)))) (Int.fdiv (IntKind.wrap .u64 (b*2 ^ (min (Int.toNat (IntKind.wrap .u64 (a))) 64))) (2 ^ 32)))) (IntKind.wrap .u64 ((iOr .u64 (IntKind.wrap .u64 (d*2 ^ (min (Int.toNat (IntKind.wrap .u64 (a))) 64))) (Int.fdiv c (2 ^ (min (Int.toNat (IntKind.wrap .u64 (64 - (IntKind.wrap .u64 (a))))) 64)))) - (IntKind.wrap .u64 ((IntKind.wrap .u64 (Int.tdiv (iOr .u64 (IntKind.wrap .u64 (d*2 ^ (min (Int.toNat (IntKind.wrap .u64 (a))) 64))) (Int.fdiv c (2 ^ (min (Int.toNat (IntKind.wrap .u64 (64 - (IntKind.wrap .u64 (a))))) 64)))) (Int.fdiv (IntKind.wrap .u64 (b*2 ^ (min (Int.toNat (IntKind.wrap .u64 (a))) 64))) (2 ^ 32))))*(Int.fdiv (IntKind.wrap .u64 (b*2 ^ (min (Int.toNat (IntKind.wrap .u64 (a))) 64))) (2 ^ 32))))))
 (fun e m o=>gK ((Int.fdiv (IntKind.wrap .u64 (b*2 ^ (min (Int.toNat (IntKind.wrap .u64 (a))) 64))) (2 ^ 32)) != 0) (jT α (Int.fdiv (IntKind.wrap .u64 (b*2 ^ (min (Int.toNat (IntKind.wrap .u64 (a))) 64))) (2 ^ 32)) (mL .u64 (IntKind.wrap .u64 (b*2 ^ (min (Int.toNat (IntKind.wrap .u64 (a))) 64))) 4294967295) (mL .u64 (IntKind.wrap .u64 (c*2 ^ (min (Int.toNat (IntKind.wrap .u64 (a))) 64))) 4294967295) (IntKind.wrap .u64 ((IntKind.wrap .u64 ((IntKind.wrap .u64 ((IntKind.wrap .u64 ((iOr .u64 (IntKind.wrap .u64 (d*2 ^ (min (Int.toNat (IntKind.wrap .u64 (a))) 64))) (Int.fdiv c (2 ^ (min (Int.toNat (IntKind.wrap .u64 (64 - (IntKind.wrap .u64 (a))))) 64))))*4294967296))+(Int.fdiv (IntKind.wrap .u64 (c*2 ^ (min (Int.toNat (IntKind.wrap .u64 (a))) 64))) (2 ^ 32)))) - (IntKind.wrap .u64 (e*(IntKind.wrap .u64 (b*2 ^ (min (Int.toNat (IntKind.wrap .u64 (a))) 64))))))) - (IntKind.wrap .u64 ((IntKind.wrap .u64 (Int.tdiv (IntKind.wrap .u64 ((IntKind.wrap .u64 ((IntKind.wrap .u64 ((iOr .u64 (IntKind.wrap .u64 (d*2 ^ (min (Int.toNat (IntKind.wrap .u64 (a))) 64))) (Int.fdiv c (2 ^ (min (Int.toNat (IntKind.wrap .u64 (64 - (IntKind.wrap .u64 (a))))) 64))))*4294967296))+(Int.fdiv (IntKind.wrap .u64 (c*2 ^ (min (Int.toNat (IntKind.wrap .u64 (a))) 64))) (2 ^ 32)))) - (IntKind.wrap .u64 (e*(IntKind.wrap .u64 (b*2 ^ (min (Int.toNat (IntKind.wrap .u64 (a))) 64))))))) (Int.fdiv (IntKind.wrap .u64 (b*2 ^ (min (Int.toNat (IntKind.wrap .u64 (a))) 64))) (2 ^ 32))))*(Int.fdiv (IntKind.wrap .u64 (b*2 ^ (min (Int.toNat (IntKind.wrap .u64 (a))) 64))) (2 ^ 32)))))) (IntKind.wrap .u64 (Int.tdiv (IntKind.wrap .u64 ((IntKind.wrap .u64 ((IntKind.wrap .u64 ((iOr .u64 (IntKind.wrap .u64 (d*2 ^ (min (Int.toNat (IntKind.wrap .u64 (a))) 64))) (Int.fdiv c (2 ^ (min (Int.toNat (IntKind.wrap .u64 (64 - (IntKind.wrap .u64 (a))))) 64))))*4294967296))+(Int.fdiv (IntKind.wrap .u64 (c*2 ^ (min (Int.toNat (IntKind.wrap .u64 (a))) 64))) (2 ^ 32)))) - (IntKind.wrap .u64 (e*(IntKind.wrap .u64 (b*2 ^ (min (Int.toNat (IntKind.wrap .u64 (a))) 64))))))) (Int.fdiv (IntKind.wrap .u64 (b*2 ^ (min (Int.toNat (IntKind.wrap .u64 (a))) 64))) (2 ^ 32))))
 (fun p h q=>gK (decide (0<=(IntKind.wrap .u64 (a)))) (k1 (IntKind.wrap .u64 ((IntKind.wrap .u64 (e*4294967296))+h)) (Int.fdiv (IntKind.wrap .u64 ((IntKind.wrap .u64 ((IntKind.wrap .u64 ((IntKind.wrap .u64 ((IntKind.wrap .u64 ((IntKind.wrap .u64 ((iOr .u64 (IntKind.wrap .u64 (d*2 ^ (min (Int.toNat (IntKind.wrap .u64 (a))) 64))) (Int.fdiv c (2 ^ (min (Int.toNat (IntKind.wrap .u64 (64 - (IntKind.wrap .u64 (a))))) 64))))*4294967296))+(Int.fdiv (IntKind.wrap .u64 (c*2 ^ (min (Int.toNat (IntKind.wrap .u64 (a))) 64))) (2 ^ 32)))) - (IntKind.wrap .u64 (e*(IntKind.wrap .u64 (b*2 ^ (min (Int.toNat (IntKind.wrap .u64 (a))) 64)))))))*4294967296))+(mL .u64 (IntKind.wrap .u64 (c*2 ^ (min (Int.toNat (IntKind.wrap .u64 (a))) 64))) 4294967295))) - (IntKind.wrap .u64 (h*(IntKind.wrap .u64 (b*2 ^ (min (Int.toNat (IntKind.wrap .u64 (a))) 64))))))) (2 ^ (min (Int.toNat (IntKind.wrap .u64 (a))) 64)))))
 (fun r i s=>gK (decide (0<=(IntKind.wrap .u64 (a)))) (k1 (IntKind.wrap .u64 ((IntKind.wrap .u64 (e*4294967296))+i)) (Int.fdiv (IntKind.wrap .u64 ((IntKind.wrap .u64 ((IntKind.wrap .u64 ((IntKind.wrap .u64 ((IntKind.wrap .u64 ((IntKind.wrap .u64 ((iOr .u64 (IntKind.wrap .u64 (d*2 ^ (min (Int.toNat (IntKind.wrap .u64 (a))) 64))) (Int.fdiv c (2 ^ (min (Int.toNat (IntKind.wrap .u64 (64 - (IntKind.wrap .u64 (a))))) 64))))*4294967296))+(Int.fdiv (IntKind.wrap .u64 (c*2 ^ (min (Int.toNat (IntKind.wrap .u64 (a))) 64))) (2 ^ 32)))) - (IntKind.wrap .u64 (e*(IntKind.wrap .u64 (b*2 ^ (min (Int.toNat (IntKind.wrap .u64 (a))) 64)))))))*4294967296))+(mL .u64 (IntKind.wrap .u64 (c*2 ^ (min (Int.toNat (IntKind.wrap .u64 (a))) 64))) 4294967295))) - (IntKind.wrap .u64 (i*(IntKind.wrap .u64 (b*2 ^ (min (Int.toNat (IntKind.wrap .u64 (a))) 64))))))) (2 ^ (min (Int.toNat (IntKind.wrap .u64 (a))) 64)))))))
 (fun g t w=>gK ((Int.fdiv (IntKind.wrap .u64 (b*2 ^ (min (Int.toNat (IntKind.wrap .u64 (a))) 64))) (2 ^ 32)) != 0) (jT α (Int.fdiv (IntKind.wrap .u64 (b*2 ^ (min (Int.toNat (IntKind.wrap .u64 (a))) 64))) (2 ^ 32)) (mL .u64 (IntKind.wrap .u64 (b*2 ^ (min (Int.toNat (IntKind.wrap .u64 (a))) 64))) 4294967295) (mL .u64 (IntKind.wrap .u64 (c*2 ^ (min (Int.toNat (IntKind.wrap .u64 (a))) 64))) 4294967295) (IntKind.wrap .u64 ((IntKind.wrap .u64 ((IntKind.wrap .u64 ((IntKind.wrap .u64 ((iOr .u64 (IntKind.wrap .u64 (d*2 ^ (min (Int.toNat (IntKind.wrap .u64 (a))) 64))) (Int.fdiv c (2 ^ (min (Int.toNat (IntKind.wrap .u64 (64 - (IntKind.wrap .u64 (a))))) 64))))*4294967296))+(Int.fdiv (IntKind.wrap .u64 (c*2 ^ (min (Int.toNat (IntKind.wrap .u64 (a))) 64))) (2 ^ 32)))) - (IntKind.wrap .u64 (g*(IntKind.wrap .u64 (b*2 ^ (min (Int.toNat (IntKind.wrap .u64 (a))) 64))))))) - (IntKind.wrap .u64 ((IntKind.wrap .u64 (Int.tdiv (IntKind.wrap .u64 ((IntKind.wrap .u64 ((IntKind.wrap .u64 ((iOr .u64 (IntKind.wrap .u64 (d*2 ^ (min (Int.toNat (IntKind.wrap .u64 (a))) 64))) (Int.fdiv c (2 ^ (min (Int.toNat (IntKind.wrap .u64 (64 - (IntKind.wrap .u64 (a))))) 64))))*4294967296))+(Int.fdiv (IntKind.wrap .u64 (c*2 ^ (min (Int.toNat (IntKind.wrap .u64 (a))) 64))) (2 ^ 32)))) - (IntKind.wrap .u64 (g*(IntKind.wrap .u64 (b*2 ^ (min (Int.toNat (IntKind.wrap .u64 (a))) 64))))))) (Int.fdiv (IntKind.wrap .u64 (b*2 ^ (min (Int.toNat (IntKind.wrap .u64 (a))) 64))) (2 ^ 32))))*(Int.fdiv (IntKind.wrap .u64 (b*2 ^ (min (Int.toNat (IntKind.wrap .u64 (a))) 64))) (2 ^ 32)))))) (IntKind.wrap .u64 (Int.tdiv (IntKind.wrap .u64 ((IntKind.wrap .u64 ((IntKind.wrap .u64 ((iOr .u64 (IntKind.wrap .u64 (d*2 ^ (min (Int.toNat (IntKind.wrap .u64 (a))) 64))) (Int.fdiv c (2 ^ (min (Int.toNat (IntKind.wrap .u64 (64 - (IntKind.wrap .u64 (a))))) 64))))*4294967296))+(Int.fdiv (IntKind.wrap .u64 (c*2 ^ (min (Int.toNat (IntKind.wrap .u64 (a))) 64))) (2 ^ 32)))) - (IntKind.wrap .u64 (g*(IntKind.wrap .u64 (b*2 ^ (min (Int.toNat (IntKind.wrap .u64 (a))) 64))))))) (Int.fdiv (IntKind.wrap .u64 (b*2 ^ (min (Int.toNat (IntKind.wrap .u64 (a))) 64))) (2 ^ 32))))
 (fun z j A=>gK (decide (0<=(IntKind.wrap .u64 (a)))) (k1 (IntKind.wrap .u64 ((IntKind.wrap .u64 (g*4294967296))+j)) (Int.fdiv (IntKind.wrap .u64 ((IntKind.wrap .u64 ((IntKind.wrap .u64 ((IntKind.wrap .u64 ((IntKind.wrap .u64 ((IntKind.wrap .u64 ((iOr .u64 (IntKind.wrap .u64 (d*2 ^ (min (Int.toNat (IntKind.wrap .u64 (a))) 64))) (Int.fdiv c (2 ^ (min (Int.toNat (IntKind.wrap .u64 (64 - (IntKind.wrap .u64 (a))))) 64))))*4294967296))+(Int.fdiv (IntKind.wrap .u64 (c*2 ^ (min (Int.toNat (IntKind.wrap .u64 (a))) 64))) (2 ^ 32)))) - (IntKind.wrap .u64 (g*(IntKind.wrap .u64 (b*2 ^ (min (Int.toNat (IntKind.wrap .u64 (a))) 64)))))))*4294967296))+(mL .u64 (IntKind.wrap .u64 (c*2 ^ (min (Int.toNat (IntKind.wrap .u64 (a))) 64))) 4294967295))) - (IntKind.wrap .u64 (j*(IntKind.wrap .u64 (b*2 ^ (min (Int.toNat (IntKind.wrap .u64 (a))) 64))))))) (2 ^ (min (Int.toNat (IntKind.wrap .u64 (a))) 64)))))
 (fun B l C=>gK (decide (0<=(IntKind.wrap .u64 (a)))) (k1 (IntKind.wrap .u64 ((IntKind.wrap .u64 (g*4294967296))+l)) (Int.fdiv (IntKind.wrap .u64 ((IntKind.wrap .u64 ((IntKind.wrap .u64 ((IntKind.wrap .u64 ((IntKind.wrap .u64 ((IntKind.wrap .u64 ((iOr .u64 (IntKind.wrap .u64 (d*2 ^ (min (Int.toNat (IntKind.wrap .u64 (a))) 64))) (Int.fdiv c (2 ^ (min (Int.toNat (IntKind.wrap .u64 (64 - (IntKind.wrap .u64 (a))))) 64))))*4294967296))+(Int.fdiv (IntKind.wrap .u64 (c*2 ^ (min (Int.toNat (IntKind.wrap .u64 (a))) 64))) (2 ^ 32)))) - (IntKind.wrap .u64 (g*(IntKind.wrap .u64 (b*2 ^ (min (Int.toNat (IntKind.wrap .u64 (a))) 64)))))))*4294967296))+(mL .u64 (IntKind.wrap .u64 (c*2 ^ (min (Int.toNat (IntKind.wrap .u64 (a))) 64))) 4294967295))) - (IntKind.wrap .u64 (l*(IntKind.wrap .u64 (b*2 ^ (min (Int.toNat (IntKind.wrap .u64 (a))) 64))))))) (2 ^ (min (Int.toNat (IntKind.wrap .u64 (a))) 64))))))))))))))))
def yi:fU:=sld YO
def Q5:PT (List DV):=pA [pV false [(dI .u64)],pV false [(dI .u64)],pV false [(dI .u64)]]
def Ut (v:fU)(α:Type)(k:RT α):Int->Int->Int->Op α:=fun a b c=>v α a b c (fun d e=>GV k d e)
def anO:ag:=(ag.put (.m [⟨fH,MB pb⟩]) [1,1,1,1,1,1,1,1,1,1,1,1,1,1] (ag.put (.m [⟨fH,DB pF⟩]) [1,1,1,1,1,1,1,1,1,1,1,1,1,1,0,0] (ag.put (.m [⟨fH,vi lp⟩]) [1,1,1,1,1,1,1,1,1,1,1,1,1,1,0,0,0] (ag.put (.m [⟨fF,Lx jT⟩]) [1,1,1,1,1,1,1,1,1,1,1,1,1,1,1,1,1,1] (ag.put (.m [⟨fF,Ef nS⟩]) [1,1,1,1,1,1,1,1,1,1,1,1,1,1,1,1,1,1,0,0] (ag.put (.m [⟨fF,wy lJ⟩]) [1,1,1,1,1,1,1,1,1,1,1,1,1,1,1,1,1,1,0,0,0] (emb rc)))))))
theorem atg:ak Pg 234 135 ⟨Q5,Ut yi⟩:=iZ ek3 (ah Tryz.func234 (by kernel_rfl)) aN anO ((an _ _).trans ((an _ _).trans ((an _ _).trans ((an _ _).trans ((an _ _).trans ((an _ _).trans (aA _))))))) (aL (by kernel_rfl) (aZ (td:=oF) (by kernel_rfl) (aL (by kernel_rfl) (aL (by kernel_rfl) (aZ (td:=pp) (by kernel_rfl) (aL (by kernel_rfl) (aD rc) ⟨ae3,trivial⟩) ⟨akn,trivial⟩) ⟨act,trivial⟩) ⟨ac5,trivial⟩) ⟨aex,trivial⟩) ⟨ame,trivial⟩) fun _ _=>by kernel_rfl
def avD:SG:=[(3,iS 2)]
def aDG:TG:=[tT 0 [1],tT 1 [2]]
def aGX:ap:=aw Pg Tryz.f196 aDG aC
def T1 (α:Type)(a b:Int)(k1:Int->Op α):Op α:=
 jq α a b
 (fun c=>eD α c
 (fun d=>k1 d))
def nR:bz:=sld T1
def T6 (v:bz)(α:Type)(k:RT α):Int->Int->Op α:=fun a b=>v α a b (fun c=>aQ k c)
theorem amA:ak Pg 196 6 ⟨ba,T6 nR⟩:=iP ek3 aGX (ah Tryz.func196 (by kernel_rfl)) avD fun _ _=>by kernel_rfl
def aCG:TG:=[tT 0 [0],tT 1 [0,3],tT 2 [3,10],tT 3 [3],tT 4 [2]]
def aEZ:ap:=aw Pg Tryz.f201 aCG aC
def IS (α:Type)(b:Int)(k1:Int->Op α):Op α:=
 eD α b
 (fun a=>cK (decide ((w64 (a*a)) < b))
 (k1 (w64 (a+1)))
 (k1 a))
def pl:ch:=sld IS
def SX (v:ch)(α:Type)(k:RT α):Int->Op α:=fun a=>v α a (fun b=>aQ k b)
theorem arg:ak Pg 201 14 ⟨aU,SX pl⟩:=iP ek3 aEZ (ah Tryz.func201 (by kernel_rfl)) aN fun _ _=>by kernel_rfl
def aCy:SG:=[(5,iT),(8,iS 3),(10,iS 2),(11,iT),(17,iT)]
def aD7:TG:=[tT 0 [1,2,3],tT 1 [1,2,3,7],tT 2 [3,4],tT 3 [3,4]]
def aHv:ap:=aw Pg Tryz.f230 aD7 aC
abbrev Yu:Type 1:=(α:Type)->Int->Int->Int->(Int->Int->Int->Op α)->Op α
def S4 (α:Type)(a b c:Int)(k1:Int->Int->Int->Op α):Op α:=
 jS α c 1000000000
 (fun d=>cK (!d)
 (k1 a b 2)
 (jM α a b (Int.tmod (w64 ((Int.tmod c 4)+4)) 4)
 (fun e g=>k1 e g 0)))
def Ix:Yu:=sld S4
def Sk:PT (List DV):=pA [pV true [(dI .i64),(dI .i64),(dI .i64)],pV false [(dP [(dI .i64)] 0)]]
def XB (v:Yu)(α:Type)(k:RT α):I4 (Op α):=fun a b c d=>v α a b d (fun e g h=>bD k e g c h)
theorem amC:ak Pg 230 19 ⟨Sk,XB Ix⟩:=iP ek3 aHv (ah Tryz.func230 (by kernel_rfl)) aCy fun _ _=>by kernel_rfl
def aDv:TG:=[tT 0 [0],tT 1 [2]]
def aAY:ap:=aw Pg Tryz.f235 aDv aC
abbrev UH:Type 1:=(α:Type)->Nat->(Bool->Op α)->Op α
def XH (α:Type)(a:Nat)(k1:Bool->Op α):Op α:=
 RK α a
 (k1 false)
 (fun b=>cK ((FloatKind.format .f64).order b a == some Ordering.eq)
 (Zd α a 0
 (fun c=>k1 (!c)))
 (k1 false))
def Cy:UH:=sld XH
def QC (v:UH)(α:Type)(k:RT α):Nat->Op α:=fun a=>v α a (fun b=>bi k b)
theorem aoy:ak Pg 235 12 ⟨kg,QC Cy⟩:=iP ek3 aAY (ah Tryz.func235 (by kernel_rfl)) aN fun _ _=>by kernel_rfl
def avC:SG:=[(6,iT),(12,iT),(18,iT),(24,iS 2),(27,iT)]
def aAR:TG:=[tT 0 [1,2],tT 1 [1,2,21],tT 2 [2,3],tT 3 [2,3]]
def ahe:ap:=aw Pg Tryz.f232 aAR aC
def Ba:PT St:=pS [sP 1,sP 2] [au 1 (xs 3),au 2 [(cD (dX .f64)),xI]]
def aDq {β:Type}(g:St->β):Int->Int->Int->Nat->Nat->Int->β:=Ba.unc g
def alS:PT St:=pS [sP 1,sP 2,sl 21 (aV false [(cD dB)])] [au 1 (xs 3),au 2 [(cD (dX .f64)),xI]]
def afm {β:Type}(g:St->β):Bool->Int->Int->Int->Nat->Nat->Int->β:=alS.unc g
def aa7:PT (List RV):=pRs [pR true [rD (dX .f64),rD (dI .i64)],wI]
def bB {β:Type}(g:List RV->β):Nat->Nat->Int->Int->β:=aa7.unc g
def ahQ:ag:=ag.sub [1,0,0] (emb ahe)
def GS (α:Type)(a b c:Int)(k1:Bool->Op α):Op α:=
 jS α a 67108864
 (fun d=>cK (!d)
 (k1 true)
 (jS α b 67108864
 (fun e=>cK (!e)
 (k1 true)
 (kU α c 0 67108864
 (fun g=>k1 (!g))))))
def vV:cg:=sld GS
def L9 (v:cg)(α:Type)(K:KT α):Int->Int->Int->Nat->Nat->Int->Op α:=fun a b c d e g=>v α a b c (fun h=>afm (K .normal) h a b c d e g)
theorem aeX:∀ (α:Type) (K:KT α),L9 vV α K=Ba.unc fun σ=>az Pg Ek3 avC ahQ K σ:=aY (fun α K=>by kernel_rfl)
abbrev qY:Type 1:=(α:Type)->Int->Int->Int->(Nat->Nat->Int->Int->Op α)->Op α
def TD (α:Type)(a b c:Int)(k1:Nat->Nat->Int->Int->Op α):Op α:=
 vV α a b c
 (fun d=>cK d
 (k1 0 0 0 8)
 (IY α a b
 (fun e g=>k1 e g c 0)))
def fW:qY:=sld TD
def Ta (v:qY)(α:Type)(k:RT α):Int->Int->Int->Op α:=fun a b c=>v α a b c (fun d e g h=>bB k d e g h)
def apj:ag:=(ag.put (.m [⟨Ba,L9 vV⟩]) [1,0] (emb ahe))
theorem aox:ak Pg 232 29 ⟨cX,Ta fW⟩:=iZ ek3 (ah Tryz.func232 (by kernel_rfl)) avC apj ((an _ _).trans (aA _)) (aL (by kernel_rfl) (aD ahe) ⟨aeX,trivial⟩) fun _ _=>by kernel_rfl
def R2:SG:=[(8,iT),(14,iT),(20,iT),(22,iT)]
def aD2:TG:=[tT 0 [1,2],tT 1 [2,5],tT 2 [4],tT 3 [18],tT 4 [4],tT 5 [4]]
def Gn:ap:=aw Pg Tryz.f115 aD2 aC
def Cf:PT St:=pS [sl 1 (aV false [(cD (dFn 116 []))]),sP 2] [au 2 [xI,xI]]
def aGk {β:Type}(g:St->β):Int->Int->β:=Cf.unc g
def aeF:ag:=ag.sub [1,0,0,0] (emb Gn)
def FB (α:Type)(a b:Int)(k1:Bool->Op α):Op α:=
 BR α a
 (fun c=>cK (!c)
 (k1 true)
 (BR α b
 (fun d=>k1 (!d))))
def wV:bI:=sld FB
def M6 (v:bI)(α:Type)(K:KT α):Int->Int->Op α:=fun a b=>v α a b (fun c=>BS (K .normal) c a b)
theorem ae2:∀ (α:Type) (K:KT α),M6 wV α K=Cf.unc fun σ=>az Pg Ek3 R2 aeF K σ:=aY (fun α K=>by kernel_rfl)
def Zo (α:Type)(a b:Int)(k1:Int->Op α):Op α:=
 wV α a b
 (fun c=>cK c
 (k1 2)
 (cK (decide (b < a))
 (k1 10)
 (k1 0)))
def Dj:bz:=sld Zo
def Zv:PT (List DV):=pA [pV true [(dI .i64),(dI .i64)],pV false [(dFn 116 [])]]
def TA (v:bz)(α:Type)(k:RT α):Int->Int->Op α:=fun a b=>v α a b (fun c=>aQ k c)
def arL:ag:=(ag.put (.m [⟨Cf,M6 wV⟩]) [1,0,0] (emb Gn))
theorem at4:ak Pg 115 24 ⟨Zv,TA Dj⟩:=iZ ek3 (ah Tryz.func115 (by kernel_rfl)) R2 arL ((an _ _).trans (aA _)) (aL (by kernel_rfl) (aD Gn) ⟨ae2,trivial⟩) fun _ _=>by kernel_rfl
def B7:PT St:=pS [sl 1 (aV false [(cD (dFn 117 []))]),sP 2] [au 2 [xI,xI]]
def aCa {β:Type}(g:St->β):Int->Int->β:=B7.unc g
def ajK:ag:=ag.sub [1,0,0,0] (emb Gn)
def GJ (α:Type)(a b:Int)(k1:Bool->Op α):Op α:=
 Co α a
 (fun c=>cK (!c)
 (k1 true)
 (Co α b
 (fun d=>k1 (!d))))
def sM:bI:=sld GJ
def Li (v:bI)(α:Type)(K:KT α):Int->Int->Op α:=fun a b=>v α a b (fun c=>BS (K .normal) c a b)
theorem alh:∀ (α:Type) (K:KT α),Li sM α K=B7.unc fun σ=>az Pg Ek3 R2 ajK K σ:=aY (fun α K=>by kernel_rfl)
def Ti (α:Type)(a b:Int)(k1:Int->Op α):Op α:=
 sM α a b
 (fun c=>cK c
 (k1 2)
 (cK (decide (b < a))
 (k1 10)
 (k1 0)))
def Bw:bz:=sld Ti
def PR:PT (List DV):=pA [pV true [(dI .i64),(dI .i64)],pV false [(dFn 117 [])]]
def YS (v:bz)(α:Type)(k:RT α):Int->Int->Op α:=fun a b=>v α a b (fun c=>aQ k c)
def aov:ag:=(ag.put (.m [⟨B7,Li sM⟩]) [1,0,0] (emb Gn))
theorem asz:ak Pg 115 24 ⟨PR,YS Bw⟩:=iZ ek3 (ah Tryz.func115 (by kernel_rfl)) R2 aov ((an _ _).trans (aA _)) (aL (by kernel_rfl) (aD Gn) ⟨alh,trivial⟩) fun _ _=>by kernel_rfl
def ae9:SG:=[(4,iS 9),(9,iT),(14,iS 2),(21,iT),(24,iT),(28,iS 2),(34,iT),(37,iT),(41,iT),(46,iT),(52,iT),(54,iT)]
def aCi:TG:=[tT 0 [1],tT 1 [1,3],tT 2 [2],tT 3 [1,7],tT 4 [2],tT 5 [1,18],tT 6 [2],tT 7 [1,26],tT 8 [2],tT 9 [1,31],tT 10 [2],tT 11 [1,39],tT 12 [2],tT 13 [50],tT 14 [2],tT 15 [2]]
def Y7:ap:=aw Pg Tryz.f114 aCi aC
def ED:PT St:=pS [sP 1,sl 3 (aV false [(cD dB)])] [au 1 (xs 9)]
def aCI {β:Type}(g:St->β):Bool->I9 β:=ED.unc g
def af3:PT St:=pS [sP 1,sl 7 (aV false [(cD dB)])] [au 1 (xs 9)]
def ahx {β:Type}(g:St->β):Bool->I9 β:=af3.unc g
def Bj:PT St:=pS [sP 1,sl 31 (aV false [(cD dB)])] [au 1 (xs 9)]
def aB6 {β:Type}(g:St->β):Bool->I9 β:=Bj.unc g
def aiw:PT St:=pS [sP 1,sl 39 (aV false [(cD dB)])] [au 1 (xs 9)]
def ac1 {β:Type}(g:St->β):Bool->I9 β:=aiw.unc g
def aay:ag:=ag.sub [1,0,0,1,1,1,1,1,1,1,1,1,1,0] (emb Y7)
def HG (α:Type)(a b:Int)(k1:Bool->Op α):Op α:=
 iD α a 0 10000
 (fun c=>cK (!c)
 (k1 true)
 (iD α b 0 10000
 (fun d=>k1 (!d))))
def nN:bI:=sld HG
def LR (v:bI)(α:Type)(K:KT α):Bool->I9 (Op α):=fun m c d e g h i j a b=>v α a b (fun l=>ac1 (K .normal) l c d e g h i j a b)
theorem adt:∀ (α:Type) (K:KT α),LR nN α K=Bj.unc fun σ=>az Pg Ek3 ae9 aay K σ:=aY (fun α K=>by kernel_rfl)
def aaJ:ag:=ag.sub [1,0,0,1,1,0] (emb Y7)
def Gk (α:Type)(a b c:Int)(k1:Bool->Op α):Op α:=
 iD α a 5000 80000
 (fun d=>cK (!d)
 (k1 true)
 (yQ α b c 0 9999
 (fun e=>k1 (!e))))
def nQ:cg:=sld Gk
def NM (v:cg)(α:Type)(K:KT α):Bool->I9 (Op α):=fun m d e a b c g h i j=>v α a b c (fun l=>ahx (K .normal) l d e a b c g h i j)
theorem ado:∀ (α:Type) (K:KT α),NM nQ α K=ED.unc fun σ=>az Pg Ek3 ae9 aaJ K σ:=aY (fun α K=>by kernel_rfl)
def Xs (α:Type)(h i j a b c d e g:Int)(k1:Int->Op α):Op α:=
 DP α h i
 (fun l=>cK (!l)
 (k1 11)
 (nQ α j a b
 (fun m=>cK m
 (k1 2)
 (cK (decide (b < a))
 (k1 10)
 (yQ α c d 1000 200000
 (fun o=>cK (!o)
 (k1 2)
 (cK (decide (d < c))
 (k1 10)
 (nN α e g
 (fun p=>cK p
 (k1 2)
 (cK (decide (g < e))
 (k1 24)
 (k1 0)))))))))))
def Bs:Ke:=sld Xs
def Td (v:Ke)(α:Type)(k:RT α):I9 (Op α):=fun a b c d e g h i j=>v α a b c d e g h i j (fun l=>aQ k l)
def auU:ag:=(ag.put (.m [⟨ED,NM nQ⟩]) [1,0,0,1,1] (ag.put (.m [⟨Bj,LR nN⟩]) [1,0,0,1,1,1,1,1,1,1,1,1,1] (emb Y7)))
theorem aqX:ak Pg 114 56 ⟨la,Td Bs⟩:=iZ ek3 (ah Tryz.func114 (by kernel_rfl)) ae9 auU ((an _ _).trans ((an _ _).trans (aA _))) (aL (by kernel_rfl) (aL (by kernel_rfl) (aD Y7) ⟨adt,trivial⟩) ⟨ado,trivial⟩) fun _ _=>by kernel_rfl
def Kq:SG:=[(19,iS 3),(20,iS 3),(22,iT),(27,iT),(33,iT),(45,iS 3),(46,iS 3),(48,iT),(53,iT),(59,iT),(61,iT),(64,iT),(69,iT),(74,iT)]
def aIy:TG:=[tT 0 [0,1],tT 1 [0,1,14],(2,⟨[4,5],true,[⟨false,4,0,20004,5⟩],[]⟩),tT 3 [0,1,15,16,17],tT 4 [0,1,15,16,17,18],tT 5 [0,1,7,15,16,17],tT 6 [0,1,15,16,17,36],(7,⟨[4,5],true,[⟨false,4,0,20004,5⟩],[]⟩),tT 8 [0,1,15,16,17],tT 9 [0,1,40],(10,⟨[4,5],true,[⟨false,4,0,20004,5⟩],[]⟩),tT 11 [0,1,8],tT 12 [1,8,41,42,43],tT 13 [1,8,41,42,43,44],tT 14 [1,8,10,41,42,43],tT 15 [1,8,10,11,41,42,43],tT 16 [1,8,10,11,41,42,43,56],(17,⟨[4,5],true,[⟨false,4,0,20004,5⟩],[]⟩),tT 18 [1,8,41,42,43],tT 19 [1,8,41,42,43],(20,⟨[4,5],true,[⟨false,4,0,20004,5⟩],[]⟩)]
def aJn:TG:=[(4,⟨[0,1,15,16,17],true,[⟨false,15,0,20015,3⟩],[]⟩),(13,⟨[1,8,41,42,43],true,[⟨false,8,0,20008,5⟩,⟨false,41,0,20041,3⟩],[]⟩)]
def aaq:ap:=aw Pg Tryz.f39 aIy aJn
def v6:OT:=tdC (ag.sub [1,1,0,1,0] (emb aaq))
def vT:OT:=tdC (ag.sub [1,1,1,1,1,0,1,0] (emb aaq))
def IE:PT St:=pS [sl 0 (aV false [(cD dL)]),sI 1,sl 15 (aV false [(cD dL)]),sI 16,sI 17] []
def JM {β:Type}(g:St->β):ae->Int->ae->Int->Int->β:=IE.unc g
def api:PT St:=pS [sl 4 (aV false [(dz 20004)]),sI 5] [dA 20004 5]
def kb {β:Type}(g:St->β):Int->ae->β:=api.unc g
def apb:PT St:=pS [sl 0 (aV false [(cD dL)]),sI 1,sl 15 (aV false [(cD dL)]),sI 16,sI 17,sl 18 (aV false [(cD dB)])] []
def AU {β:Type}(g:St->β):ae->Int->ae->Int->Int->Bool->β:=apb.unc g
def Jg:PT St:=pS [sI 1,sl 8 (aV false [(dz 20008)]),sl 41 (aV false [(cD dL)]),sI 42,sI 43] [dA 20008 5]
def J2 {β:Type}(g:St->β):Int->ae->Int->Int->ae->β:=Jg.unc g
def ao3:PT St:=pS [sI 1,sl 8 (aV false [(dz 20008)]),sl 41 (aV false [(cD dL)]),sI 42,sI 43,sl 44 (aV false [(cD dB)])] [dA 20008 5]
def Af {β:Type}(g:St->β):Int->ae->Int->Int->Bool->ae->β:=ao3.unc g
def uK:ag:=ag.sub [1,1,1,1,1,0,1,0,0] (emb aaq)
def wh (α:Type)(i:Int)(j:ae)(g c:Int)(e:ae)(kn:Int->ae->Op α)(k1:Op α)(k2:Int->Bool->ae->Op α):Op α:=
 cK (decide (c < g))
 (dE j c [.int .i64,.int .i64,.int .i64]
 (fun d h a=>ne α (w64 (a*i)) 1000
 (fun b=>cK (decide (1000000 < (w64 (a+b))))
 (k1)
 (gK (cj 5 40 e [[DC.v (.int .i64 d),DC.v (.int .i64 d),DC.v (.int .i64 (if (w64 (a - b)) > 0 then (w64 (a - b)) else 0)),DC.v (.int .i64 (w64 (a+b))),DC.v (.int .i64 h)]]) (kn (w64 (c+1)) (e++[[DC.v (.int .i64 d),DC.v (.int .i64 d),DC.v (.int .i64 (if (w64 (a - b)) > 0 then (w64 (a - b)) else 0)),DC.v (.int .i64 (w64 (a+b))),DC.v (.int .i64 h)]]))))))
 (k2 c (decide (c < g)) e)
def mA (α:Type)(a:Int)(b:ae)(c:Int)(k1:Op α)(k2:Int->Bool->ae->Op α):Nat->Int->ae->Op α
 | 0,_,_=>none
 | n+1,d,e=>wh α a b c d e (mA α a b c k1 k2 n) k1 k2
def MA (α:Type)(a:Int)(b:ae)(c:Int)(k1:Op α)(k2:Int->Bool->ae->Op α)(d:Int)(e:ae):Op α:=mA α a b c k1 k2 aG d e
abbrev Lj:Type 1:=(α:Type)->Int->ae->Int->(Op α)->(Int->Bool->ae->Op α)->Int->ae->Op α
def Ay:Lj:=sld MA
def UD (v:Lj)(α:Type)(K:KT α):Int->ae->Int->Int->ae->Op α:=fun a b c d e=>v α a b c (kb (K .ret) 8 ([]:ae)) (fun g h i=>Af (K (.exit 2)) a b c g h i) d e
theorem aqK (α:Type)(K:KT α)(Kn:SK α)(a:Int)(b:ae)(c d:Int)(e:ae):J2 (fun σ=>az Pg Ek3 Kq uK (bM (fun σ=>br vT σ Kn) K) σ) a b c d e=wh α a b c d e (fun d e=>J2 Kn a b c d e) (kb (K .ret) 8 ([]:ae)) (fun g h i=>Af (K (.exit 2)) a b c g h i):=by kernel_rfl
theorem apM (α:Type)(K:KT α):∀ (n:Nat) (a:Int) (b:ae) (c d:Int) (e:ae),mA α a b c (kb (K .ret) 8 ([]:ae)) (fun g h i=>Af (K (.exit 2)) a b c g h i) n d e=J2 (aK (az Pg Ek3 Kq uK) vT K n) a b c d e:=by
 intro n
 induction n with
 | zero=>intros;rfl
 | succ n ih=>intro a b c d e;exact (congrArg (fun kn=>wh α a b c d e kn (kb (K .ret) 8 ([]:ae)) (fun g h i=>Af (K (.exit 2)) a b c g h i)) (funext fun d=>funext fun e=>ih a b c d e)).trans (aqK α K (aK (az Pg Ek3 Kq uK) vT K n) a b c d e).symm
theorem aru:∀ (α:Type) (K:KT α),UD Ay α K=Jg.unc fun σ=>aK (az Pg Ek3 Kq uK) vT K aG σ:=aY (fun α K=>funext fun a=>funext fun b=>funext fun c=>funext fun d=>funext fun e=>apM α K aG a b c d e)
def s9:ag:=ag.sub [1,1,0,1,0,0] (emb aaq)
def ux (α:Type)(c:ae)(b a:Int)(kn:Int->Op α)(k1:Op α)(k2:Int->Bool->Op α):Op α:=
 cK (decide (a < b))
 (dE c a [.int .i64,.int .i64,.int .i64]
 (fun d e g=>re α d
 (fun h=>cK (!h)
 (k1)
 (yR α e
 (fun i=>cK (!i)
 (k1)
 (CP α g
 (fun j=>cK (!j)
 (k1)
 (kn (w64 (a+1))))))))))
 (k2 a (decide (a < b)))
def qI (α:Type)(a:ae)(b:Int)(k1:Op α)(k2:Int->Bool->Op α):Nat->Int->Op α
 | 0,_=>none
 | n+1,c=>ux α a b c (qI α a b k1 k2 n) k1 k2
def Lm (α:Type)(a:ae)(b:Int)(k1:Op α)(k2:Int->Bool->Op α)(c:Int):Op α:=qI α a b k1 k2 aG c
abbrev wg:Type 1:=(α:Type)->ae->Int->(Op α)->(Int->Bool->Op α)->Int->Op α
def Aj:wg:=sld Lm
def PP (v:wg)(α:Type)(K:KT α):ae->Int->ae->Int->Int->Op α:=fun c d a b e=>v α a b (kb (K .ret) 2 ([]:ae)) (fun g h=>AU (K (.exit 0)) c d a b g h) e
theorem apK (α:Type)(K:KT α)(Kn:SK α)(d:ae)(e:Int)(a:ae)(b c:Int):JM (fun σ=>az Pg Ek3 Kq s9 (bM (fun σ=>br v6 σ Kn) K) σ) d e a b c=ux α a b c (fun c=>JM Kn d e a b c) (kb (K .ret) 2 ([]:ae)) (fun g h=>AU (K (.exit 0)) d e a b g h):=by kernel_rfl
theorem ang (α:Type)(K:KT α):∀ (n:Nat) (d:ae) (e:Int) (a:ae) (b c:Int),qI α a b (kb (K .ret) 2 ([]:ae)) (fun g h=>AU (K (.exit 0)) d e a b g h) n c=JM (aK (az Pg Ek3 Kq s9) v6 K n) d e a b c:=by
 intro n
 induction n with
 | zero=>intros;rfl
 | succ n ih=>intro d e a b c;exact (congrArg (fun kn=>ux α a b c kn (kb (K .ret) 2 ([]:ae)) (fun g h=>AU (K (.exit 0)) d e a b g h)) (funext fun c=>ih d e a b c)).trans (apK α K (aK (az Pg Ek3 Kq s9) v6 K n) d e a b c).symm
theorem ato:∀ (α:Type) (K:KT α),PP Aj α K=IE.unc fun σ=>aK (az Pg Ek3 Kq s9) v6 K aG σ:=aY (fun α K=>funext fun a=>funext fun b=>funext fun c=>funext fun d=>funext fun e=>ang α K aG a b c d e)
abbrev ahs:Type 1:=(α:Type)->ae->Int->(ae->Int->Op α)->Op α
def agR (α:Type)(a:ae)(b:Int)(k1:ae->Int->Op α):Op α:=
 cK (decide (40 < ((List.length a:Nat):Int)))
 (k1 ([]:ae) 8)
 (Aj α a ((List.length a:Nat):Int)
 (k1 ([]:ae) 2)
 (fun e g=>pk α b 0 1000
 (fun c=>cK (!c)
 (k1 ([]:ae) 2)
 (Ay α b a ((List.length a:Nat):Int)
 (k1 ([]:ae) 8)
 (fun h i d=>k1 d 0) 0 ([]:ae)))) 0)
def KU:ahs:=sld agR
def ajP:PT (List DV):=pA [pV false [dL],vI]
def ahF (v:ahs)(α:Type)(k:RT α):ae->Int->Op α:=fun a b=>v α a b (fun c d=>Cs k c d)
def ax9:ag:=(ag.put (.m [⟨IE,PP Aj⟩]) [1,1,0,1,0] (ag.put (.m [⟨Jg,UD Ay⟩]) [1,1,1,1,1,0,1,0] (emb aaq)))
theorem awg:ak Pg 39 80 ⟨ajP,ahF KU⟩:=iZ ek3 (ah Tryz.func39 (by kernel_rfl)) Kq ax9 ((an _ _).trans ((an _ _).trans (aA _))) (aZ (td:=v6) (by kernel_rfl) (aZ (td:=vT) (by kernel_rfl) (aD aaq) ⟨aru,trivial⟩) ⟨ato,trivial⟩) fun _ _=>by kernel_rfl
end
end Go.AM.K
