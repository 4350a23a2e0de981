/- Printed by KGen. -/
import Derived.Test.YtffcelhcekillaaGreatRg
namespace Go.AM.K
open Go.Proofs
set_option maxRecDepth 100000
set_option linter.unusedVariables false
noncomputable section
def avv:SG:=[(17,[.int .i64,.int .i64,.int .i64,.int .i64,.int .i64,.int .i64,.sl,.int .i64,.int .i64]),(30,[.sl]),(58,iT),(65,iT),(67,iT),(71,[.cpx .f64,.int .i64]),(80,[.cpx .f64,.int .i64]),(88,iS 2),(90,iS 2),(93,iT),(95,iT),(98,iT),(101,iT),(103,iT),(106,iT),(117,iS 2),(119,iS 2),(122,iS 6)]
def aBr:TG:=[tT 0 [1,2],tT 1 [1,2,4,5],tT 2 [1,2,4,5,22],tT 3 [2,3],tT 4 [1,2,4,6],tT 5 [1,2,4,6,7],tT 6 [2,4,6,7,8],tT 7 [2,4,6,7,8,9,10],tT 8 [2,4,6,7,9,10,12],tT 9 [2,4,6,7,9,10,12,59],tT 10 [2,3],tT 11 [2,4,6,7,9,10,12,68],tT 12 [2,3],tT 13 [2,4,5,7,9,10,12,13],tT 14 [2,4,5,7,9,10,12,13,76],tT 15 [2,3],tT 16 [2,4,5,9,10,12,13,14],tT 17 [2,4,5,9,10,12,13,14,85],tT 18 [2,3],tT 19 [2,4,9,10,12,13,14],tT 20 [2,4,12,15],tT 21 [2,4,15,111],tT 22 [2,4,15],tT 23 [2,15,115],tT 24 [2,15],tT 25 [2,3]]
def ahm:ap:=aw Pg Tryz.f106 aBr aC
def EH:PT St:=pS [sP 2,sl 4 (aV false [(cC 18 0)]),sl 12 (aV false [(cD dB)]),sP 15] [au 2 (xs 6),au 18 [xI,xI,xI,xI,xI,xI,xI,(cD dL),xI,xI],au 15 (xs 6)]
def aGC {β:Type}(g:St->β):Bool->Int->Int->Int->Int->Int->Int->Int->Int->Int->Int->Int->Int->Int->ae->I8 β:=EH.unc g
def acs:PT St:=pS [sP 2,sl 4 (aV false [(cC 18 0)]),sP 15] [au 2 (xs 6),au 18 [xI,xI,xI,xI,xI,xI,xI,(cD dL),xI,xI],au 15 (xs 6)]
def alR {β:Type}(g:St->β):Int->Int->Int->Int->Int->Int->Int->Int->Int->Int->Int->Int->Int->ae->I8 β:=acs.unc g
def aek:PT St:=pS [sP 2,sl 4 (aV false [(cC 18 0)]),sP 15,sl 111 (aV false [(cD dB)])] [au 2 (xs 6),au 18 [xI,xI,xI,xI,xI,xI,xI,(cD dL),xI,xI],au 15 (xs 6)]
def afV {β:Type}(g:St->β):Bool->Int->Int->Int->Int->Int->Int->Int->Int->Int->Int->Int->Int->Int->ae->I8 β:=aek.unc g
def aar:ag:=ag.sub [1,1,1,1,1,1,1,1,1,1,1,1,1,1,1,1,0] (emb ahm)
def Gi (α:Type)(a:Bool)(k1:Op α)(k2:Op α):Op α:=
 cK a
 (k1)
 (k2)
def o3:bV:=sld Gi
def Mn (v:bV)(α:Type)(K:KT α):Bool->Int->Int->Int->Int->Int->Int->Int->Int->Int->Int->Int->Int->Int->ae->I8 (Op α):=fun a b c d e g h i j l m o p q r s t w z C D A B=>v α a (alR (K .normal) b c d e g h i j l m o p q r s t w z 0 0 A B) (afV (K .normal) a b c d e g h i j l m o p q r s t w z C D A B)
theorem aku:∀ (α:Type) (K:KT α),Mn o3 α K=EH.unc fun σ=>az Pg amZ avv aar K σ:=aY (fun α K=>by kernel_rfl)
def Qa (α:Type)(b e g j l m:Int)(a:ae)(c d:Int)(k1:I7 (Op α)):Op α:=
 Ia α b e g j l m a c d
 (fun q=>cK (q != 0)
 (k1 0 0 0 0 0 0 q)
 (xC α 0 b e g j l m a c d false
 (fun z A B C=>xC α C b e g j l m a c d true
 (fun D F G H=>js α H b e g j a c d (w64 (((List.length a:Nat):Int)+1))
 (fun I J L M=>oI α M I J L
 (fun N O b2 b3 P=>js α P b e g j a c d 0
 (fun Q R T U=>oI α U Q R T
 (fun r V b4 b5 W=>rK α W b e g a c d (w64 (((List.length a:Nat):Int)+1))
 (fun b6 b7 b8 X s=>cK (s != 0)
 (k1 0 0 0 0 0 0 s)
 (cK (decide (r<=0))
 (k1 0 0 0 0 0 0 9)
 (rM α z A B
 (fun Y Z t=>cK (t != 0)
 (k1 0 0 0 0 0 0 t)
 (rM α D F G
 (fun a0 a1 w=>cK (w != 0)
 (k1 0 0 0 0 0 0 w)
 (mo α N O
 (fun a2 a3=>yD α Y Z
 (fun h i=>jF α (w64 (a2*a0)) V
 (fun a4=>ne α (w64 (a3*a1)) r
 (fun a5=>yD α a4 a5
 (fun o p=>o3 α X
 (ou α b a c d
 (fun a6=>cK a6
 (oh α h i 0 0
 (fun a7 a8=>k1 h i 0 0 a7 a8 0))
 (k1 h i 0 0 0 0 0)))
 (ou α b a c d
 (fun a9=>cK a9
 (oh α h i o p
 (fun b0 b1=>k1 h i o p b0 b1 0))
 (k1 h i o p 0 0 0)))))))))))))))))))))))
def BB:zM:=sld Qa
def SZ (v:zM)(α:Type)(k:RT α):Int->Int->Int->Int->Int->Int->ae->Int->Int->Op α:=fun a b c d e g h i j=>v α a b c d e g h i j (fun l m o p q r s=>FX k l m o p q r s)
def arP:ag:=(ag.put (.m [⟨EH,Mn o3⟩]) [1,1,1,1,1,1,1,1,1,1,1,1,1,1,1,1] (emb ahm))
theorem apL:ak Pg 106 123 ⟨eW,SZ BB⟩:=iZ aG2 (ah Tryz.func106 (by kernel_rfl)) avv arP ((an _ _).trans (aA _)) (aL (by kernel_rfl) (aD ahm) ⟨aku,trivial⟩) fun _ _=>by kernel_rfl
def Oj:SG:=[(11,[.sl]),(19,[.sl,.sl,.int .i64,.int .i64]),(22,[.sl]),(24,iS 9),(25,iS 9),(31,[.bool]),(35,iS 3),(41,[.bool]),(47,[.sl])]
def aKf:TG:=[tT 0 [1,4],tT 1 [1,4,5],tT 2 [1,4,5,6],tT 3 [1,4,5,6,7],tT 4 [1,4,5,6,7,13],tT 6 [1,4,5,6,7,8],tT 7 [1,4,5,6,7,8],tT 8 [1,4,5,6,7,8,31],(9,⟨[2,3,4],true,[],[3]⟩),tT 10 [1,4,5,6,7,8],tT 11 [1,4,5,6,7],tT 5 [1,4,5,6,7],tT 12 [4,5,50],(13,⟨[2,3,4],true,[],[3]⟩),(14,⟨[2,3,4],true,[],[3]⟩)]
def aIX:TG:=[(4,⟨[1,4,5,6,7],true,[⟨false,5,0,20005,1⟩,⟨true,1,0,30100,9⟩,⟨true,1,1,30101,5⟩,⟨true,17,0,31700,1⟩],[]⟩)]
def abi:ap:=aw Pg Tryz.f37 aKf aIX
def wZ:OT:=tdC (ag.sub [1,1,1,0,1,0] (emb abi))
def Ax:PT St:=pS [sP 1,sP 4,sl 5 (aV false [(dz 20005)]),sl 6 (aV false [(cD dB)]),sI 7,sl 8 (aV false [(cC 17 0)])] [au 1 [(cD dL),(cD dL),xI,xI],au 4 (xs 3),dA 20005 1,au 17 [NY,(cD dB),xI,xI,xI,(cD dB)]]
def aIq {β:Type}(g:St->β):Bool->Int->ae->ae->Int->Int->Int->Int->Int->ae->Bool->Int->Int->Int->Bool->β:=Ax.unc g
def atw:PT St:=pS [sP 1,sP 4,sl 5 (aV false [(dz 20005)]),sl 6 (aV false [(cD dB)]),sI 7,sl 8 (aV false [(cC 17 0)])] [au 1 [(cD dL),(cD dL),xI,xI],au 4 (xs 3),dA 20005 1,au 17 [(cD dL),(cD dB),xI,xI,xI,(cD dB)]]
def QI {β:Type}(g:St->β):Bool->Int->ae->ae->Int->Int->Int->Int->Int->ae->ae->Bool->Int->Int->Int->Bool->β:=atw.unc g
def aum:PT St:=pS [sP 1,sP 4,sl 5 (aV false [(dz 20005)]),sl 6 (aV false [(cD dB)]),sI 7,sl 8 (aV false [(cC 17 0)])] [au 1 [(cD dL),(cD dL),xI,xI],au 4 (xs 3),dA 20005 1,au 17 [(dz 27),(cD dB),xI,xI,xI,(cD dB)],dA 27 1]
def YN {β:Type}(g:St->β):Bool->Int->ae->ae->Int->Int->Int->Int->Int->ae->Bool->Int->Int->Int->Bool->ae->β:=aum.unc g
def zF:PT St:=pS [sP 1,sP 4,sl 5 (aV false [(dz 20005)]),sl 6 (aV false [(cD dB)]),sI 7,sl 8 (aV false [(cC 17 0)]),sl 31 (aV false [(cD dB)])] [au 1 [(cD dL),(cD dL),xI,xI],au 4 (xs 3),dA 20005 1,au 17 [(cD dL),(cD dB),xI,xI,xI,(cD dB)]]
def aIj {β:Type}(g:St->β):Bool->Int->Bool->ae->ae->Int->Int->Int->Int->Int->ae->ae->Bool->Int->Int->Int->Bool->β:=zF.unc g
def AZ:PT St:=pS [sP 1,sP 4,sl 5 (aV false [(dz 20005)]),sl 6 (aV false [(cD dB)]),sI 7,sl 8 (aV false [(cC 17 0)]),sl 31 (aV false [(cD dB)])] [au 1 [(cD dL),(cD dL),xI,xI],au 4 (xs 3),dA 20005 1,au 17 [(dz 27),(cD dB),xI,xI,xI,(cD dB)],dA 27 1]
def aIe {β:Type}(g:St->β):Bool->Int->Bool->ae->ae->Int->Int->Int->Int->Int->ae->Bool->Int->Int->Int->Bool->ae->β:=AZ.unc g
def In:PT St:=pS [sP 1,sP 4,sl 5 (aV false [(dz 20005)]),sl 6 (aV false [(cD dB)]),sI 7] [au 1 [(cD dL),(cD dL),xI,xI],au 4 (xs 3),dA 20005 1]
def Kl {β:Type}(g:St->β):Bool->Int->ae->ae->Int->Int->Int->Int->Int->ae->β:=In.unc g
def at6:PT St:=pS [sI 2,sl 3 (aV false [(cD dL)]),sP 4] [au 4 (xs 3)]
def kc {β:Type}(g:St->β):Int->ae->Int->Int->Int->β:=at6.unc g
def auG:PT St:=pS [sP 1,sP 4,sl 5 (aV false [(dz 20005)]),sl 6 (aV false [(cD dB)]),sI 7,sl 13 (aV false [(cD dB)])] [au 1 [(cD dL),(cD dL),xI,xI],au 4 (xs 3),dA 20005 1]
def A1 {β:Type}(g:St->β):Bool->Int->Bool->ae->ae->Int->Int->Int->Int->Int->ae->β:=auG.unc g
def ack:PT (List RV):=pRs [wI,pR false [rD dL],pR true [rD (dI .i64),rD (dI .i64),rD (dI .i64)]]
def L2 {β:Type}(g:List RV->β):Int->ae->Int->Int->Int->β:=ack.unc g
def yX:aE:=aE.ofIO (⟨74,109,[⟨ags,adE KH⟩]⟩::Nb) bw io0
theorem axc:yX.Ok Pg:=aE.ofIO_ok aO ⟨⟨ayZ,trivial⟩,OP⟩
def N8:ag:=ag.sub [1,1,1,0,1,0,0,1,0,0,1,1,1,0] (emb abi)
abbrev tM:Type 1:=(α:Type)->Bool->Bool->(Bool->Op α)->Op α
def MI (α:Type)(a b:Bool)(k1:Bool->Op α):Op α:=
 cK a
 (k1 true)
 (k1 b)
def mr:tM:=sld MI
def HX (v:tM)(α:Type)(K:KT α):Bool->Int->Bool->ae->ae->Int->Int->Int->Int->Int->ae->ae->Bool->Int->Int->Int->Bool->Op α:=fun b c w d e g h i j l m o p q r s a=>v α b a (fun t=>QI (K .normal) t c d e g h i j l m o p q r s a)
theorem auZ:∀ (α:Type) (K:KT α),HX mr α K=zF.unc fun σ=>az Pg yX Oj N8 K σ:=aY (fun α K=>by kernel_rfl)
def L1 (α:Type)(a b:Bool)(k1:Bool->Op α):Op α:=
 cK a
 (k1 true)
 (k1 b)
def mP:tM:=sld L1
def Ks (v:tM)(α:Type)(K:KT α):Bool->Int->Bool->ae->ae->Int->Int->Int->Int->Int->ae->Bool->Int->Int->Int->Bool->ae->Op α:=fun b c w d e g h i j l m o p q r a s=>v α b a (fun t=>YN (K .normal) t c d e g h i j l m o p q r a s)
theorem am5:∀ (α:Type) (K:KT α),Ks mP α K=AZ.unc fun σ=>az Pg yX Oj N8 K σ:=aY (fun α K=>by kernel_rfl)
def ajN:ag:=ag.sub [1,1,1,0,1,0,0,1,0,0,1,0] (emb abi)
abbrev LG:Type 1:=(α:Type)->Int->ae->ae->Int->Int->Bool->Int->Int->Int->Bool->(Bool->Int->Int->Int->Bool->Op α)->(Bool->Int->Int->Int->Bool->ae->Op α)->Op α
def LD (α:Type)(a:Int)(b c:ae)(d e:Int)(g:Bool)(h i j:Int)(l:Bool)(k1:Bool->Int->Int->Int->Bool->Op α)(k2:Bool->Int->Int->Int->Bool->ae->Op α):Op α:=
 dE b a [.int .i64,.int .i64,.int .i64,.int .i64,.int .i64,.int .i64,.int .i64,.int .i64,.int .i64]
 (fun H I J m o p q L M=>Mv α
 (KH α g h i j l b c d e a p q m o 0
 (fun r s t w z=>k1 r s t w z)
 (fun A B C D F G=>k2 B C D F G A)))
def sO:LG:=sld LD
def H2 (v:LG)(α:Type)(K:KT α):Bool->Int->ae->ae->Int->Int->Int->Int->Int->ae->Bool->Int->Int->Int->Bool->Op α:=fun m a b c d e o p q r s t w z A=>v α a b c d e s t w z A (fun g h i j l=>QI (K .normal) m a b c d e o p q r ([]:ae) g h i j l) (fun g h i j l B=>YN (K .normal) m a b c d e o p q r g h i j l B)
theorem arh:∀ (α:Type) (K:KT α),H2 sO α K=Ax.unc fun σ=>az Pg yX Oj ajN K σ:=aY (fun α K=>by kernel_rfl)
def tD:ag:=ag.sub [1,1,1,0,1,0,0] (ag.put (.m [⟨Ax,H2 sO⟩]) [1,1,1,0,1,0,0,1,0,0,1] (ag.put (.m [⟨zF,HX mr⟩,⟨AZ,Ks mP⟩]) [1,1,1,0,1,0,0,1,0,0,1,1,1] (emb abi)))
def tS (α:Type)(c g:ae)(h i:Int)(d:Bool)(a:Int)(b:ae)(kn:Bool->Int->ae->Op α)(k1:Int->Int->Int->Op α)(k2:Bool->Int->Bool->ae->Op α):Op α:=
 cK (decide (a < ((List.length c:Nat):Int)))
 (sO α a c g h i false 0 0 0 false
 (fun j l m o p=>cK j
 (k1 l m o)
 (mr α d p
 (fun q=>gK (cj 1 24 b [[DC.sl ([]:ae)]]) (kn q (w64 (a+1)) (b++[[DC.sl ([]:ae)]])))))
 (fun r s t w z e=>cK r
 (k1 s t w)
 (mP α d z
 (fun A=>gK (cj 1 24 b [[DC.sl e]]) (kn A (w64 (a+1)) (b++[[DC.sl e]]))))))
 (k2 d a (decide (a < ((List.length c:Nat):Int))) b)
def mz (α:Type)(a b:ae)(c d:Int)(k1:Int->Int->Int->Op α)(k2:Bool->Int->Bool->ae->Op α):Nat->Bool->Int->ae->Op α
 | 0,_,_,_=>none
 | n+1,e,g,h=>tS α a b c d e g h (mz α a b c d k1 k2 n) k1 k2
def MZ (α:Type)(a b:ae)(c d:Int)(k1:Int->Int->Int->Op α)(k2:Bool->Int->Bool->ae->Op α)(e:Bool)(g:Int)(h:ae):Op α:=mz α a b c d k1 k2 aG e g h
abbrev Lu:Type 1:=(α:Type)->ae->ae->Int->Int->(Int->Int->Int->Op α)->(Bool->Int->Bool->ae->Op α)->Bool->Int->ae->Op α
def zJ:Lu:=sld MZ
def SE (v:Lu)(α:Type)(K:KT α):Bool->Int->ae->ae->Int->Int->Int->Int->Int->ae->Op α:=fun i j d e g h l m o p=>v α d e g h (fun a b c=>kc (K .ret) 0 ([]:ae) a b c) (fun a b c q=>A1 (K (.exit 0)) a b c d e g h l m o q) i j p
theorem aqa (α:Type)(K:KT α)(Kn:SK α)(a:Bool)(b:Int)(c d:ae)(e g i j l:Int)(h:ae):Kl (fun σ=>az Pg yX Oj tD (bM (fun σ=>br wZ σ Kn) K) σ) a b c d e g i j l h=tS α c d e g a b h (fun a b h=>Kl Kn a b c d e g i j l h) (fun m o p=>kc (K .ret) 0 ([]:ae) m o p) (fun m o p q=>A1 (K (.exit 0)) m o p c d e g i j l q):=by kernel_rfl
theorem apr (α:Type)(K:KT α):∀ (n:Nat) (e:Bool) (g:Int) (a b:ae) (c d m o p:Int) (h:ae),mz α a b c d (fun i j l=>kc (K .ret) 0 ([]:ae) i j l) (fun i j l q=>A1 (K (.exit 0)) i j l a b c d m o p q) n e g h=Kl (aK (az Pg yX Oj tD) wZ K n) e g a b c d m o p h:=by
 intro n
 induction n with
 | zero=>intros;rfl
 | succ n ih=>intro e g a b c d m o p h;exact (congrArg (fun kn=>tS α a b c d e g h kn (fun i j l=>kc (K .ret) 0 ([]:ae) i j l) (fun i j l q=>A1 (K (.exit 0)) i j l a b c d m o p q)) (funext fun e=>funext fun g=>funext fun h=>ih e g a b c d m o p h)).trans (aqa α K (aK (az Pg yX Oj tD) wZ K n) e g a b c d m o p h).symm
theorem aud:∀ (α:Type) (K:KT α),SE zJ α K=In.unc fun σ=>aK (az Pg yX Oj tD) wZ K aG σ:=aY (fun α K=>funext fun a=>funext fun b=>funext fun c=>funext fun d=>funext fun e=>funext fun g=>funext fun h=>funext fun i=>funext fun j=>funext fun l=>apr α K aG a b c d e g h i j l)
abbrev J3:Type 1:=(α:Type)->ae->ae->Int->Int->(Int->ae->Int->Int->Int->Op α)->Op α
def ajG (α:Type)(a b:ae)(c d:Int)(k1:Int->ae->Int->Int->Int->Op α):Op α:=
 zJ α a b c d
 (fun e g h=>k1 0 ([]:ae) e g h)
 (fun i l m j=>cK i
 (k1 1 ([]:ae) 0 0 0)
 (k1 2 j 0 0 0)) false 0 ([]:ae)
def EU:J3:=sld ajG
def akO (v:J3)(α:Type)(k:RT α):ae->ae->Int->Int->Op α:=fun a b c d=>v α a b c d (fun e g h i j=>L2 k e g h i j)
def awp:ag:=(ag.put (.m [⟨In,SE zJ⟩]) [1,1,1,0,1,0] (ag.put (.m [⟨Ax,H2 sO⟩]) [1,1,1,0,1,0,0,1,0,0,1] (ag.put (.m [⟨zF,HX mr⟩,⟨AZ,Ks mP⟩]) [1,1,1,0,1,0,0,1,0,0,1,1,1] (emb abi))))
theorem axv:ak Pg 37 54 ⟨kQ,akO EU⟩:=iZ axc (ah Tryz.func37 (by kernel_rfl)) Oj awp ((an _ _).trans ((an _ _).trans ((an _ _).trans (aA _)))) (aZ (td:=wZ) (by kernel_rfl) (aL (by kernel_rfl) (aL (by kernel_rfl) (aD abi) ⟨auZ,am5,trivial⟩) ⟨arh,trivial⟩) ⟨aud,trivial⟩) fun _ _=>by kernel_rfl
def aKq:SG:=[(10,[.sl,.sl,.int .i64,.int .i64]),(12,iS 9),(13,iS 4),(23,iS 2),(25,iS 2),(27,iS 2),(31,iT)]
def aIs:TG:=[tT 0 [2,3,4],tT 1 [2,4,6,7],tT 2 [2,4,6,7,19],tT 3 [4,5],tT 4 [4,5]]
def aI3:ap:=aw Pg Tryz.f82 aIs aC
noncomputable abbrev axl:List bE:=⟨106,123,[⟨eW,SZ BB⟩]⟩::⟨37,54,[⟨kQ,akO EU⟩]⟩::Nb
theorem aDh:bJ axl fun c=>bJ c.l (ak Pg c.f c.nt):=⟨⟨apL,trivial⟩,⟨axv,trivial⟩,OP⟩
def aJq:aE:=aE.ofIO axl bw io0
theorem aDR:aJq.Ok Pg:=aE.ofIO_ok aO aDh
def aiU (α:Type)(c:ae)(d e a g h i j l m:Int)(k1:Int->Int->Int->Op α):Op α:=
 Fy α
 (BB α h l m g i j c d e
 (fun o p q r s t b=>cK (b != 0)
 (k1 0 0 b)
 (cK (a == 2)
 (k1 s t 0)
 (cK (a == 1)
 (k1 q r 0)
 (cK (a == 0)
 (k1 o p 0)
 (none))))))
def KL:z5:=sld aiU
def Kb:PT (List DV):=pA [pV true [dL,dL,(dI .i64),(dI .i64),(dI .i64),(dI .i64),(dI .i64),(dI .i64),(dI .i64),(dI .i64),(dI .i64),(dI .i64),(dI .i64)],pV true [(dI .i64),(dI .i64),(dI .i64),(dI .i64)]]
def aim (v:z5)(α:Type)(k:RT α):ae->ae->I15 (Op α):=fun q a b c d e g r s t w z A h i j l=>v α a b c d e g h i j l (fun m o p=>jd k m o p)
theorem ayD:ak Pg 82 33 ⟨Kb,aim KL⟩:=iP aDR aI3 (ah Tryz.func82 (by kernel_rfl)) aKq fun _ _=>by kernel_rfl
def aKi:SG:=[(14,[.sl,.sl,.int .i64,.sl,.int .i64,.int .i64]),(23,[.sl]),(26,iS 2),(29,[.sl,.sl,.int .i64,.int .i64]),(38,[.sl,.sl,.int .i64,.int .i64]),(44,iS 3)]
def aI0:TG:=[tT 0 [1,3],tT 1 [1,3,5,6],tT 2 [1,3,5,6,19],tT 3 [2,3,4],tT 4 [3,7],tT 5 [3,7,9],tT 6 [3,7,9,34],tT 7 [2,3,4],tT 8 [3,10,12],tT 9 [2,3,4]]
def aKt:ap:=aw Pg Tryz.f13 aI0 aC
def ahA:PT (List RV):=pRs [wI,pR true [rD (dI .i64),rD (dI .i64),rD (dI .i64)],wI]
def LK {β:Type}(g:List RV->β):I5 β:=ahA.unc g
abbrev Kx:Type 1:=(α:Type)->ae->ae->Int->ae->Int->Int->(I5 (Op α))->Op α
def agA (α:Type)(h i:ae)(j:Int)(a:ae)(b c:Int)(k1:I5 (Op α)):Op α:=
 MQ α h i j
 (fun d e=>cK (e != 0)
 (k1 0 0 0 0 e)
 (M3 α a d b c
 (fun q g=>cK (g != 0)
 (k1 0 0 0 0 g)
 (EU α a d b c
 (fun l r m o p=>k1 l m o p 0)))))
def GM:Kx:=sld agA
def alJ (v:Kx)(α:Type)(k:RT α):ae->ae->Int->ae->Int->Int->Op α:=fun a b c d e g=>v α a b c d e g (fun h i j l m=>LK k h i j l m)
theorem ay0:ak Pg 13 45 ⟨fx,alJ GM⟩:=iP aDR aKt (ah Tryz.func13 (by kernel_rfl)) aKi fun _ _=>by kernel_rfl
def aE3:SG:=[(12,[.sl,.sl,.int .i64,.int .i64,.int .i64,.int .i64,.int .i64,.int .i64,.int .i64,.int .i64,.int .i64,.int .i64,.int .i64]),(13,iS 4),(18,iT),(21,iT),(25,iT),(29,iT)]
def aK9:TG:=[tT 0 [2,3],tT 1 [2,5,6],tT 2 [6,7,8,9,10],tT 3 [7,8,9,10,31],tT 4 [4],tT 5 [7,8,9,10,34],tT 6 [4],tT 7 [43],tT 8 [4],tT 9 [4]]
def azl:ap:=aw Pg Tryz.f42 aK9 aC
def HU:PT St:=pS [sI 7,sI 8,sI 9,sI 10,sl 31 (aV false [(cD dB)])] []
def aIp {β:Type}(g:St->β):Int->Int->Int->Int->Bool->β:=HU.unc g
def ap1:PT St:=pS [sI 7,sI 8,sI 9,sI 10,sl 34 (aV false [(cD dB)])] []
def asi {β:Type}(g:St->β):Int->Int->Int->Int->Bool->β:=ap1.unc g
noncomputable abbrev ayR:List bE:=⟨82,33,[⟨Kb,aim KL⟩]⟩::⟨13,45,[⟨fx,alJ GM⟩]⟩::axl
theorem aAe:bJ ayR fun c=>bJ c.l (ak Pg c.f c.nt):=⟨⟨ayD,trivial⟩,⟨ay0,trivial⟩,aDh⟩
def aGS:aE:=aE.ofIO ayR bw io0
theorem aKY:aGS.Ok Pg:=aE.ofIO_ok aO aAe
def akm:ag:=ag.sub [1,1,1,0,0,1,1,0] (emb azl)
def LN (α:Type)(a b c d:Int)(k1:Bool->Op α):Op α:=
 cK (decide (c<=a))
 (k1 (decide (b<=d)))
 (k1 false)
def wp:fR:=sld LN
def Su (v:fR)(α:Type)(K:KT α):I4 (Bool->Op α):=fun a b c d g=>v α a b c d (fun e=>asi (K .normal) a b c d e)
theorem are:∀ (α:Type) (K:KT α),Su wp α K=HU.unc fun σ=>az Pg aGS aE3 akm K σ:=aY (fun α K=>by kernel_rfl)
def ahS (α:Type)(e:ae)(g h i j l a b m o p q:Int)(k1:Int->Op α):Op α:=
 KL α e g h i j l m o p q
 (fun c d r=>cK (r != 0)
 (k1 1)
 (wp α (w64 (c*10000)) (w64 (d*10000)) (w64 (a*1048576)) (w64 (b*1048576))
 (fun s=>cK s
 (k1 2)
 (cK (decide ((w64 (d*10000)) < (w64 (a*1048576))))
 (k1 0)
 (cK (decide ((w64 (b*1048576)) < (w64 (c*10000))))
 (k1 0)
 (k1 1))))))
def fv:AY:=sld ahS
def aiJ (v:AY)(α:Type)(k:RT α):ae->ae->I15 (Op α):=fun q a b c d e g r s t w h i j l m o=>v α a b c d e g h i j l m o (fun p=>aQ k p)
def azG:ag:=(ag.put (.m [⟨HU,Su wp⟩]) [1,1,1,0,0,1,1] (emb azl))
theorem axR:ak Pg 42 52 ⟨Kb,aiJ fv⟩:=iZ aKY (ah Tryz.func42 (by kernel_rfl)) aE3 azG ((an _ _).trans (aA _)) (aL (by kernel_rfl) (aD azl) ⟨are,trivial⟩) fun _ _=>by kernel_rfl
def aqP:SG:=[(8,[.sl,.sl,.int .i64,.int .i64]),(10,iT),(20,iT),(24,iT),(28,iT),(33,iT),(37,iT),(41,iT),(46,[.sl,.sl,.int .i64,.int .i64,.int .i64,.int .i64,.int .i64,.int .i64,.int .i64,.int .i64,.int .i64,.int .i64,.int .i64]),(48,iT),(50,iT)]
def aIG:TG:=[tT 0 [2,3],tT 1 [3,5,6],tT 2 [3,5,6,14],tT 3 [4],tT 4 [3,5,18],tT 5 [4],tT 6 [45],tT 7 [4],tT 8 [4]]
def auC:ap:=aw Pg Tryz.f15 aIG aC
def Ko:PT St:=pS [sP 2,sP 3] [au 2 [(cD dL),(cD dL),xI,xI],au 3 (xs 3)]
def aIl {β:Type}(g:St->β):ae->ae->I5 β:=Ko.unc g
def atE:PT St:=pS [sP 3,sP 5,sI 6] [au 3 (xs 3),au 5 [(dz 11),(dz 10011),xI,xI,xI,xI,xI,xI,xI,xI,xI,xI,xI],dA 11 9,dA 10011 5]
def ars {β:Type}(g:St->β):Int->Int->Int->Int->Int->Int->Int->Int->Int->Int->Int->Int->Int->Int->Int->ae->ae->β:=atE.unc g
def aoI:PT St:=pS [sP 3,sP 5,sI 6] [au 3 (xs 3),au 5 [(cD dL),(cD dL),xI,xI,xI,xI,xI,xI,xI,xI,xI,xI,xI]]
def aq2 {β:Type}(g:St->β):Int->Int->Int->Int->ae->ae->I11 β:=aoI.unc g
def JJ:PT St:=pS [sP 3,sP 5,sI 6,sl 14 (aV false [(cD dB)])] [au 3 (xs 3),au 5 [(dz 11),(dz 10011),xI,xI,xI,xI,xI,xI,xI,xI,xI,xI,xI],dA 11 9,dA 10011 5]
def aH9 {β:Type}(g:St->β):Int->Bool->Int->Int->Int->Int->Int->Int->Int->Int->Int->Int->Int->Int->Int->Int->ae->ae->β:=JJ.unc g
def anZ:PT St:=pS [sP 3,sP 5,sl 18 (aV false [(cD dB)])] [au 3 (xs 3),au 5 [(dz 11),(dz 10011),xI,xI,xI,xI,xI,xI,xI,xI,xI,xI,xI],dA 11 9,dA 10011 5]
def as8 {β:Type}(g:St->β):Bool->Int->Int->Int->Int->Int->Int->Int->Int->Int->Int->Int->Int->Int->Int->ae->ae->β:=anZ.unc g
def HO:PT St:=pS [sP 3,sP 5,sI 6,sl 14 (aV false [(cD dB)])] [au 3 (xs 3),au 5 [(cD dL),(cD dL),xI,xI,xI,xI,xI,xI,xI,xI,xI,xI,xI]]
def aIg {β:Type}(g:St->β):Int->Bool->Int->Int->Int->ae->ae->I11 β:=HO.unc g
def anu:PT St:=pS [sP 3,sP 5,sl 18 (aV false [(cD dB)])] [au 3 (xs 3),au 5 [(cD dL),(cD dL),xI,xI,xI,xI,xI,xI,xI,xI,xI,xI,xI]]
def anS {β:Type}(g:St->β):Bool->Int->Int->Int->ae->ae->I11 β:=anu.unc g
noncomputable abbrev awh:List bE:=⟨42,52,[⟨Kb,aiJ fv⟩]⟩::ayR
theorem aAo:bJ awh fun c=>bJ c.l (ak Pg c.f c.nt):=⟨⟨axR,trivial⟩,aAe⟩
def aje:aE:=aE.ofIO awh bw io0
theorem aGh:aje.Ok Pg:=aE.ofIO_ok aO aAo
def Lf:ag:=ag.sub [1,1,0,0,1,1,0] (emb auC)
abbrev tw:Type 1:=(α:Type)->Int->Int->Int->Int->Int->Int->(Bool->Op α)->Op α
def ajC (α:Type)(a b c d e g:Int)(k1:Bool->Op α):Op α:=
 iD α a e g
 (fun h=>cK (!h)
 (k1 true)
 (iD α b c d
 (fun i=>k1 (!i))))
def Jc:tw:=sld ajC
def YE (v:tw)(α:Type)(K:KT α):Int->Bool->Int->Int->Int->Int->Int->Int->Int->Int->Int->Int->Int->Int->Int->Int->ae->ae->Op α:=fun w z h a b i j l m o c d e g p q r s=>v α a b c d e g (fun t=>as8 (K .normal) t h a b i j l m o c d e g p q r s)
theorem asx:∀ (α:Type) (K:KT α),YE Jc α K=JJ.unc fun σ=>az Pg aje aqP Lf K σ:=aY (fun α K=>by kernel_rfl)
def L6 (α:Type)(a b c d e g:Int)(k1:Bool->Op α):Op α:=
 iD α a e g
 (fun h=>cK (!h)
 (k1 true)
 (iD α b c d
 (fun i=>k1 (!i))))
def v4:tw:=sld L6
def XJ (v:tw)(α:Type)(K:KT α):Int->Bool->Int->Int->Int->ae->ae->I11 (Op α):=fun w z h a b i j l m o p q c d e g r s=>v α a b c d e g (fun t=>anS (K .normal) t h a b i j l m o p q c d e g r s)
theorem arG:∀ (α:Type) (K:KT α),XJ v4 α K=HO.unc fun σ=>az Pg aje aqP Lf K σ:=aY (fun α K=>by kernel_rfl)
def aqY:ag:=ag.sub [1,0] (emb auC)
def MG (α:Type)(a b:ae)(c d e:Int)(k1:Int->Op α)(k2:I9 (Op α)):Op α:=
 Vu α a b c d e
 (fun g=>k1 g)
 (fun h i j l m o p q r=>k2 h i j l m o p q r)
def Ac:H3:=sld MG
def RZ (v:H3)(α:Type)(K:KT α):ae->ae->I5 (Op α):=fun c d e g a h i=>v α c d e g a (fun b=>ars (K .normal) b a h i 0 0 0 0 0 0 0 0 0 0 0 ([]:ae) ([]:ae)) (fun b j l m o p q r s=>aq2 (K .normal) 0 a h i c d e g b j l m o p q r s)
theorem anm:∀ (α:Type) (K:KT α),RZ Ac α K=Ko.unc fun σ=>az Pg aje aqP aqY K σ:=aY (fun α K=>by kernel_rfl)
abbrev akz:Type 1:=(α:Type)->ae->ae->Int->Int->Int->Int->Int->(Int->Op α)->Op α
def akE (α:Type)(h c:ae)(d e i a b:Int)(k1:Int->Op α):Op α:=
 Ac α h c d e i
 (fun g=>cK (g != 0)
 (k1 g)
 (Jc α a b 0 0 0 0
 (fun j=>cK j
 (k1 2)
 (lF α
 (fv α ([]:ae) 0 0 0 0 0 0 0 a a b b
 (fun l=>cK (l != 0)
 (k1 20)
 (k1 0)))))))
 (fun m o p q r s t w z=>v4 α a b q r s t
 (fun A=>cK A
 (k1 2)
 (lF α
 (fv α c d e m o p w z a a b b
 (fun B=>cK (B != 0)
 (k1 20)
 (k1 0))))))
def FK:akz:=sld akE
def ac0:PT (List DV):=pA [pV true [dL,dL,(dI .i64),(dI .i64)],pV true [(dI .i64),(dI .i64),(dI .i64)]]
def alY (v:akz)(α:Type)(k:RT α):ae->ae->I5 (Op α):=fun a b c d e g h=>v α a b c d e g h (fun i=>aQ k i)
def axT:ag:=(ag.put (.m [⟨Ko,RZ Ac⟩]) [1] (ag.put (.m [⟨JJ,YE Jc⟩,⟨HO,XJ v4⟩]) [1,1,0,0,1,1] (emb auC)))
theorem awZ:ak Pg 15 54 ⟨ac0,alY FK⟩:=iZ aGh (ah Tryz.func15 (by kernel_rfl)) aqP axT ((an _ _).trans ((an _ _).trans (aA _))) (aL (by kernel_rfl) (aL (by kernel_rfl) (aD auC) ⟨asx,arG,trivial⟩) ⟨anm,trivial⟩) fun _ _=>by kernel_rfl
def zq:SG:=[(14,[.sl,.sl,.int .i64,.int .i64,.int .i64,.int .i64,.int .i64,.int .i64,.int .i64,.int .i64,.int .i64,.int .i64,.int .i64]),(15,iS 4),(22,[.sl]),(28,iS 2),(31,iS 2),(37,[.sl,.sl,.int .i64,.int .i64,.int .i64,.int .i64,.int .i64,.int .i64,.int .i64,.int .i64,.int .i64,.int .i64,.int .i64]),(39,iT),(41,iT),(48,iS 4),(63,[.sl]),(70,iS 4),(77,iS 4),(84,iS 4)]
def aJu:TG:=[tT 0 [0,2,4],tT 1 [0,2,4,17],tT 2 [0],tT 3 [0,6],tT 4 [0,2,4,7],tT 5 [0,2,4,7,44],tT 6 [0],tT 7 [0,6],tT 8 [0,2,4,8],tT 9 [0,2,4,8,55],tT 10 [0],tT 11 [0,6],tT 12 [0,2,4,8],tT 13 [0,2,9],tT 14 [0,6]]
def nl:ap:=aw Pg Tryz.f96 aJu aC
def gy:PT St:=pSv [(0,500000000,0)] [sl 0 (aV false [(cC 500000000 0)]),sI 2,sP 4,sI 8] [au 500000000 [(cD dL),(cD dL),xI,xI,xI,xI,xI,xI,xI,xI,xI,xI,xI,(dz 500000014),(cD dNP),(cD dB)],dA 500000014 1,au 4 (xs 4)]
def aIo {β:Type}(g:St->β):Int->Int->ae->ae->Int->Int->Int->Int->Int->Int->Int->Int->Int->Int->Int->Bool->ae->I4 β:=gy.unc g
def as1:PT St:=pSv [(0,500000000,0)] [sl 0 (aV false [(cC 500000000 0)]),sI 2,sP 4,sI 8,sl 55 (aV false [(cD dB)])] [au 500000000 [(cD dL),(cD dL),xI,xI,xI,xI,xI,xI,xI,xI,xI,xI,xI,(dz 500000014),(cD dNP),(cD dB)],dA 500000014 1,au 4 (xs 4)]
def uI {β:Type}(g:St->β):Int->Int->Bool->ae->ae->Int->Int->Int->Int->Int->Int->Int->Int->Int->Int->Int->Bool->ae->I4 β:=as1.unc g
def aef:PT (List RV):=pRs [pR false [rD dB],pR true [rD dL,rD dL,rD (dI .i64),rD (dI .i64),rD (dI .i64),rD (dI .i64),rD (dI .i64),rD (dI .i64),rD (dI .i64),rD (dI .i64),rD (dI .i64),rD (dI .i64),rD (dI .i64),rO 1,rD dNP,rD dB]]
def md {β:Type}(g:List RV->β):Bool->ae->ae->Int->Int->Int->Int->Int->Int->Int->Int->Int->Int->Int->ae->Bool->β:=aef.unc g
def ac2:PT (List RV):=pRs [pR false [rD dB],pR true [rD dL,rD dL,rD (dI .i64),rD (dI .i64),rD (dI .i64),rD (dI .i64),rD (dI .i64),rD (dI .i64),rD (dI .i64),rD (dI .i64),rD (dI .i64),rD (dI .i64),rD (dI .i64),rO 1,rD (dP [(dI .i64),(dI .i64)] 0),rD dB]]
def lP {β:Type}(g:List RV->β):Bool->ae->ae->Int->Int->Int->Int->Int->Int->Int->Int->Int->Int->Int->ae->Int->Int->Bool->β:=ac2.unc g
def acl:ag:=ag.sub [1,1,1,1,0,0] (emb nl)
def MJ (α:Type)(a b:Int)(k1:Bool->Op α):Op α:=
 cK (a == 5)
 (k1 true)
 (k1 (b == 0))
def vP:bI:=sld MJ
def X2 (v:bI)(α:Type)(K:KT α):Int->Int->ae->ae->Int->Int->Int->Int->Int->Int->Int->Int->Int->Int->Int->Bool->ae->I4 (Op α):=fun a b c d e g h i j l m o p q r s t w z A B=>v α a b (fun C=>uI (K .normal) a b C c d e g h i j l m o p q r s t w z A B)
theorem apT:∀ (α:Type) (K:KT α),X2 vP α K=gy.unc fun σ=>az Pg aje zq acl K σ:=aY (fun α K=>by kernel_rfl)
abbrev Pv:Type 1:=(α:Type)->ae->Int->Int->Int->Int->Int->Int->Int->ae->Bool->Int->Int->Int->Int->Int->(ae->Bool->Op α)->(Int->Int->Op α)->Op α
def aff (α:Type)(j:ae)(l m o p q r s:Int)(a:ae)(t:Bool)(b c d e w:Int)(k1:ae->Bool->Op α)(k2:Int->Int->Op α):Op α:=
 fv α j l m o p q r s b c d e
 (fun z=>cK (z == 2)
 (gK (cj 1 8 a [[DC.v (.int .i64 0)]]) (k1 (a++[[DC.v (.int .i64 0)]]) t))
 (eE α b c
 (fun g=>eE α d e
 (fun h=>lF α
 (fv α j l m o p q r s g g h h
 (fun A=>cK (A == 0)
 (k2 g h)
 (jy α b c d e
 (fun i=>vP α w i
 (fun B=>cK B
 (k1 a true)
 (gK (cj 1 8 a [[DC.v (.int .i64 i)]]) (jX α b c d e i
 (fun C D F G H=>none))))))))))))
def A5:Pv:=sld aff
def kW:PT (List DV):=pA [pV false [(dMr [dL,dL,(dI .i64),(dI .i64),(dI .i64),(dI .i64),(dI .i64),(dI .i64),(dI .i64),(dI .i64),(dI .i64),(dI .i64),(dI .i64),(dOs 1),dNP,dB] 0)],pV true [(dI .i64),(dI .i64),(dI .i64),(dI .i64)],vI]
def aeB (v:Pv)(α:Type)(k:RT α):ae->ae->Int->Int->Int->Int->Int->Int->Int->Int->Int->Int->Int->ae->Bool->I5 (Op α):=fun m a b c d e g o p q r h i s t w z A B C=>v α a b c d e g h i s t w z A B C (fun j l=>md k true m a b c d e g o p q r h i j l) (fun j l=>lP k false m a b c d e g o p q r h i s j l t)
def aw5:ag:=(ag.put (.m [⟨gy,X2 vP⟩]) [1,1,1,1,0] (emb nl))
theorem awF:ak Pg 96 89 ⟨kW,aeB A5⟩:=iZ aGh (ah Tryz.func96 (by kernel_rfl)) zq aw5 ((an _ _).trans (aA _)) (aL (by kernel_rfl) (aD nl) ⟨apT,trivial⟩) fun _ _=>by kernel_rfl
noncomputable abbrev Lz:List bE:=⟨96,89,[⟨kW,aeB A5⟩]⟩::⟨15,54,[⟨ac0,alY FK⟩]⟩::awh
theorem Pq:bJ Lz fun c=>bJ c.l (ak Pg c.f c.nt):=⟨⟨awF,trivial⟩,⟨awZ,trivial⟩,aAo⟩
def aHl:aE:=aE.ofIO Lz bw io0
theorem aKc:aHl.Ok Pg:=aE.ofIO_ok aO Pq
def ajJ:ag:=ag.sub [1,1,1,1,0,0] (emb nl)
def M0 (α:Type)(a b:Int)(k1:Bool->Op α):Op α:=
 cK (a == 5)
 (k1 true)
 (k1 (b == 0))
def tf:bI:=sld M0
def P0 (v:bI)(α:Type)(K:KT α):Int->Int->ae->ae->Int->Int->Int->Int->Int->Int->Int->Int->Int->Int->Int->Bool->ae->I4 (Op α):=fun a b c d e g h i j l m o p q r s t w z A B=>v α a b (fun C=>uI (K .normal) a b C c d e g h i j l m o p q r s t w z A B)
theorem ask:∀ (α:Type) (K:KT α),P0 tf α K=gy.unc fun σ=>az Pg aHl zq ajJ K σ:=aY (fun α K=>by kernel_rfl)
abbrev pJ:Type 1:=(α:Type)->ae->Int->Int->Int->Int->Int->Int->Int->ae->Bool->Int->Int->Int->Int->Int->(ae->Bool->Op α)->(ae->Int->Int->Bool->Op α)->Op α
def aw7 (α:Type)(h:ae)(i j l m o p q:Int)(a:ae)(r:Bool)(b c d e s:Int)(k1:ae->Bool->Op α)(k2:ae->Int->Int->Bool->Op α):Op α:=
 fv α h i j l m o p q b c d e
 (fun B=>cK (B == 2)
 (gK (cj 1 8 a [[DC.v (.int .i64 0)]]) (k1 (a++[[DC.v (.int .i64 0)]]) r))
 (eE α b c
 (fun t=>eE α d e
 (fun w=>lF α
 (fv α h i j l m o p q t t w w
 (fun C=>cK (C == 0)
 (k2 a t w r)
 (jy α b c d e
 (fun g=>tf α s g
 (fun D=>cK D
 (k1 a true)
 (gK (cj 1 8 a [[DC.v (.int .i64 g)]]) (jX α b c d e g
 (fun F G H I Q=>A5 α h i j l m o p q (a++[[DC.v (.int .i64 g)]]) r b F d G (w64 (s+1))
 (fun z A=>A5 α h i j l m o p q z A H c I e (w64 (s+1))
 (fun J L=>k1 J L)
 (fun M N=>k2 z M N A))
 (fun O P=>k2 (a++[[DC.v (.int .i64 g)]]) O P r)))))))))))))
def CD:pJ:=sld aw7
def aj1 (v:pJ)(α:Type)(k:RT α):ae->ae->Int->Int->Int->Int->Int->Int->Int->Int->Int->Int->Int->ae->Bool->I5 (Op α):=fun m a b c d e g o p q r h i s t w z A B C=>v α a b c d e g h i s t w z A B C (fun j l=>md k true m a b c d e g o p q r h i j l) (fun j l D F=>lP k false m a b c d e g o p q r h i j l D F)
def axJ:ag:=(ag.put (.m [⟨gy,P0 tf⟩]) [1,1,1,1,0] (emb nl))
theorem awe:ak Pg 96 89 ⟨kW,aj1 CD⟩:=iZ aKc (ah Tryz.func96 (by kernel_rfl)) zq axJ ((an _ _).trans (aA _)) (aL (by kernel_rfl) (aD nl) ⟨ask,trivial⟩) fun _ _=>by kernel_rfl
def avJ:aE:=aE.ofIO (⟨96,89,[⟨kW,aj1 CD⟩]⟩::Lz) bw io0
theorem ayo:avJ.Ok Pg:=aE.ofIO_ok aO ⟨⟨awe,trivial⟩,Pq⟩
def alc:ag:=ag.sub [1,1,1,1,0,0] (emb nl)
def Oz (α:Type)(a b:Int)(k1:Bool->Op α):Op α:=
 cK (a == 5)
 (k1 true)
 (k1 (b == 0))
def we:bI:=sld Oz
def V7 (v:bI)(α:Type)(K:KT α):Int->Int->ae->ae->Int->Int->Int->Int->Int->Int->Int->Int->Int->Int->Int->Bool->ae->I4 (Op α):=fun a b c d e g h i j l m o p q r s t w z A B=>v α a b (fun C=>uI (K .normal) a b C c d e g h i j l m o p q r s t w z A B)
theorem aog:∀ (α:Type) (K:KT α),V7 we α K=gy.unc fun σ=>az Pg avJ zq alc K σ:=aY (fun α K=>by kernel_rfl)
def axh (α:Type)(g:ae)(h i j l m o p:Int)(a:ae)(r:Bool)(b c d e s:Int)(k1:ae->Bool->Op α)(k2:ae->Int->Int->Bool->Op α):Op α:=
 fv α g h i j l m o p b c d e
 (fun z=>cK (z == 2)
 (gK (cj 1 8 a [[DC.v (.int .i64 0)]]) (k1 (a++[[DC.v (.int .i64 0)]]) r))
 (eE α b c
 (fun t=>eE α d e
 (fun w=>lF α
 (fv α g h i j l m o p t t w w
 (fun A=>cK (A == 0)
 (k2 a t w r)
 (jy α b c d e
 (fun q=>we α s q
 (fun B=>cK B
 (k1 a true)
 (gK (cj 1 8 a [[DC.v (.int .i64 q)]]) (jX α b c d e q
 (fun C D F G V=>CD α g h i j l m o p (a++[[DC.v (.int .i64 q)]]) r b C d D (w64 (s+1))
 (fun H I=>CD α g h i j l m o p H I F c G e (w64 (s+1))
 (fun J L=>k1 J L)
 (fun M N O P=>k2 M N O P))
 (fun Q R T U=>k2 Q R T U)))))))))))))
def BD:pJ:=sld axh
def adN (v:pJ)(α:Type)(k:RT α):ae->ae->Int->Int->Int->Int->Int->Int->Int->Int->Int->Int->Int->ae->Bool->I5 (Op α):=fun m a b c d e g o p q r h i s t w z A B C=>v α a b c d e g h i s t w z A B C (fun j l=>md k true m a b c d e g o p q r h i j l) (fun j l D F=>lP k false m a b c d e g o p q r h i j l D F)
def ax7:ag:=(ag.put (.m [⟨gy,V7 we⟩]) [1,1,1,1,0] (emb nl))
theorem axA:ak Pg 96 89 ⟨kW,adN BD⟩:=iZ ayo (ah Tryz.func96 (by kernel_rfl)) zq ax7 ((an _ _).trans (aA _)) (aL (by kernel_rfl) (aD nl) ⟨aog,trivial⟩) fun _ _=>by kernel_rfl
def av4:aE:=aE.ofIO (⟨96,89,[⟨kW,adN BD⟩]⟩::Lz) bw io0
theorem aw4:av4.Ok Pg:=aE.ofIO_ok aO ⟨⟨axA,trivial⟩,Pq⟩
def ab6:ag:=ag.sub [1,1,1,1,0,0] (emb nl)
def LH (α:Type)(a b:Int)(k1:Bool->Op α):Op α:=
 cK (a == 5)
 (k1 true)
 (k1 (b == 0))
def wk:bI:=sld LH
def YY (v:bI)(α:Type)(K:KT α):Int->Int->ae->ae->Int->Int->Int->Int->Int->Int->Int->Int->Int->Int->Int->Bool->ae->I4 (Op α):=fun a b c d e g h i j l m o p q r s t w z A B=>v α a b (fun C=>uI (K .normal) a b C c d e g h i j l m o p q r s t w z A B)
theorem aqw:∀ (α:Type) (K:KT α),YY wk α K=gy.unc fun σ=>az Pg av4 zq ab6 K σ:=aY (fun α K=>by kernel_rfl)
def awP (α:Type)(g:ae)(h i j l m o p:Int)(a:ae)(r:Bool)(b c d e s:Int)(k1:ae->Bool->Op α)(k2:ae->Int->Int->Bool->Op α):Op α:=
 fv α g h i j l m o p b c d e
 (fun z=>cK (z == 2)
 (gK (cj 1 8 a [[DC.v (.int .i64 0)]]) (k1 (a++[[DC.v (.int .i64 0)]]) r))
 (eE α b c
 (fun t=>eE α d e
 (fun w=>lF α
 (fv α g h i j l m o p t t w w
 (fun A=>cK (A == 0)
 (k2 a t w r)
 (jy α b c d e
 (fun q=>wk α s q
 (fun B=>cK B
 (k1 a true)
 (gK (cj 1 8 a [[DC.v (.int .i64 q)]]) (jX α b c d e q
 (fun C D F G V=>BD α g h i j l m o p (a++[[DC.v (.int .i64 q)]]) r b C d D (w64 (s+1))
 (fun H I=>BD α g h i j l m o p H I F c G e (w64 (s+1))
 (fun J L=>k1 J L)
 (fun M N O P=>k2 M N O P))
 (fun Q R T U=>k2 Q R T U)))))))))))))
def Eb:pJ:=sld awP
def ahv (v:pJ)(α:Type)(k:RT α):ae->ae->Int->Int->Int->Int->Int->Int->Int->Int->Int->Int->Int->ae->Bool->I5 (Op α):=fun m a b c d e g o p q r h i s t w z A B C=>v α a b c d e g h i s t w z A B C (fun j l=>md k true m a b c d e g o p q r h i j l) (fun j l D F=>lP k false m a b c d e g o p q r h i j l D F)
def axs:ag:=(ag.put (.m [⟨gy,YY wk⟩]) [1,1,1,1,0] (emb nl))
theorem axo:ak Pg 96 89 ⟨kW,ahv Eb⟩:=iZ aw4 (ah Tryz.func96 (by kernel_rfl)) zq axs ((an _ _).trans (aA _)) (aL (by kernel_rfl) (aD nl) ⟨aqw,trivial⟩) fun _ _=>by kernel_rfl
def avV:aE:=aE.ofIO (⟨96,89,[⟨kW,ahv Eb⟩]⟩::Lz) bw io0
theorem awT:avV.Ok Pg:=aE.ofIO_ok aO ⟨⟨axo,trivial⟩,Pq⟩
def adp:ag:=ag.sub [1,1,1,1,0,0] (emb nl)
def Lr (α:Type)(a b:Int)(k1:Bool->Op α):Op α:=
 cK (a == 5)
 (k1 true)
 (k1 (b == 0))
def vy:bI:=sld Lr
def WL (v:bI)(α:Type)(K:KT α):Int->Int->ae->ae->Int->Int->Int->Int->Int->Int->Int->Int->Int->Int->Int->Bool->ae->I4 (Op α):=fun a b c d e g h i j l m o p q r s t w z A B=>v α a b (fun C=>uI (K .normal) a b C c d e g h i j l m o p q r s t w z A B)
theorem asS:∀ (α:Type) (K:KT α),WL vy α K=gy.unc fun σ=>az Pg avV zq adp K σ:=aY (fun α K=>by kernel_rfl)
def axG (α:Type)(g:ae)(h i j l m o p:Int)(a:ae)(r:Bool)(b c d e s:Int)(k1:ae->Bool->Op α)(k2:ae->Int->Int->Bool->Op α):Op α:=
 fv α g h i j l m o p b c d e
 (fun z=>cK (z == 2)
 (gK (cj 1 8 a [[DC.v (.int .i64 0)]]) (k1 (a++[[DC.v (.int .i64 0)]]) r))
 (eE α b c
 (fun t=>eE α d e
 (fun w=>lF α
 (fv α g h i j l m o p t t w w
 (fun A=>cK (A == 0)
 (k2 a t w r)
 (jy α b c d e
 (fun q=>vy α s q
 (fun B=>cK B
 (k1 a true)
 (gK (cj 1 8 a [[DC.v (.int .i64 q)]]) (jX α b c d e q
 (fun C D F G V=>Eb α g h i j l m o p (a++[[DC.v (.int .i64 q)]]) r b C d D (w64 (s+1))
 (fun H I=>Eb α g h i j l m o p H I F c G e (w64 (s+1))
 (fun J L=>k1 J L)
 (fun M N O P=>k2 M N O P))
 (fun Q R T U=>k2 Q R T U)))))))))))))
def tq:pJ:=sld axG
def acK (v:pJ)(α:Type)(k:RT α):ae->ae->Int->Int->Int->Int->Int->Int->Int->Int->Int->Int->Int->ae->Bool->I5 (Op α):=fun m a b c d e g o p q r h i s t w z A B C=>v α a b c d e g h i s t w z A B C (fun j l=>md k true m a b c d e g o p q r h i j l) (fun j l D F=>lP k false m a b c d e g o p q r h i j l D F)
def ay8:ag:=(ag.put (.m [⟨gy,WL vy⟩]) [1,1,1,1,0] (emb nl))
theorem ax4:ak Pg 96 89 ⟨kW,acK tq⟩:=iZ awT (ah Tryz.func96 (by kernel_rfl)) zq ay8 ((an _ _).trans (aA _)) (aL (by kernel_rfl) (aD nl) ⟨asS,trivial⟩) fun _ _=>by kernel_rfl
def HR:PT St:=pSv [(0,500000000,0)] [sl 0 (aV false [(cC 500000000 0)]),sI 2,sP 4,sI 8] [au 500000000 [(cD dL),(cD dL),xI,xI,xI,xI,xI,xI,xI,xI,xI,xI,xI,NY,(cD dNP),(cD dB)],au 4 (xs 4)]
def aIa {β:Type}(g:St->β):Int->Int->ae->ae->Int->Int->Int->Int->Int->Int->Int->Int->Int->Int->Int->Bool->I4 β:=HR.unc g
def atB:PT St:=pSv [(0,500000000,0)] [sl 0 (aV false [(cC 500000000 0)]),sI 2,sP 4,sI 8,sl 55 (aV false [(cD dB)])] [au 500000000 [(cD dL),(cD dL),xI,xI,xI,xI,xI,xI,xI,xI,xI,xI,xI,NY,(cD dNP),(cD dB)],au 4 (xs 4)]
def apD {β:Type}(g:St->β):Int->Int->Bool->ae->ae->Int->Int->Int->Int->Int->Int->Int->Int->Int->Int->Int->Bool->I4 β:=atB.unc g
def adc:PT (List RV):=pRs [pR false [rD dB],pR true [rD dL,rD dL,rD (dI .i64),rD (dI .i64),rD (dI .i64),rD (dI .i64),rD (dI .i64),rD (dI .i64),rD (dI .i64),rD (dI .i64),rD (dI .i64),rD (dI .i64),rD (dI .i64),rD dL,rD (dP [(dI .i64),(dI .i64)] 0),rD dB]]
def adR {β:Type}(g:List RV->β):Bool->ae->ae->Int->Int->Int->Int->Int->Int->Int->Int->Int->Int->Int->ae->Int->Int->Bool->β:=adc.unc g
def ahp:PT (List RV):=pRs [pR false [rD dB],pR true [rD dL,rD dL,rD (dI .i64),rD (dI .i64),rD (dI .i64),rD (dI .i64),rD (dI .i64),rD (dI .i64),rD (dI .i64),rD (dI .i64),rD (dI .i64),rD (dI .i64),rD (dI .i64),rD dL,rD dNP,rD dB]]
def aeN {β:Type}(g:List RV->β):Bool->ae->ae->Int->Int->Int->Int->Int->Int->Int->Int->Int->Int->Int->ae->Bool->β:=ahp.unc g
def avY:aE:=aE.ofIO (⟨96,89,[⟨kW,acK tq⟩]⟩::Lz) bw io0
theorem azn:avY.Ok Pg:=aE.ofIO_ok aO ⟨⟨ax4,trivial⟩,Pq⟩
def adu:ag:=ag.sub [1,1,1,1,0,0] (emb nl)
def NR (α:Type)(a b:Int)(k1:Bool->Op α):Op α:=
 cK (a == 5)
 (k1 true)
 (k1 (b == 0))
def uq:bI:=sld NR
def TO (v:bI)(α:Type)(K:KT α):Int->Int->ae->ae->Int->Int->Int->Int->Int->Int->Int->Int->Int->Int->Int->Bool->I4 (Op α):=fun a b c d e g h i j l m o p q r s t w z A=>v α a b (fun B=>apD (K .normal) a b B c d e g h i j l m o p q r s t w z A)
theorem an4:∀ (α:Type) (K:KT α),TO uq α K=HR.unc fun σ=>az Pg avY zq adu K σ:=aY (fun α K=>by kernel_rfl)
abbrev ab2:Type 1:=(α:Type)->ae->Int->Int->Int->Int->Int->Int->Int->Bool->Int->Int->Int->Int->Int->(ae->Bool->Op α)->(Int->Int->Op α)->(Op α)->(ae->Int->Int->Bool->Op α)->Op α
def ad6 (α:Type)(e:ae)(g h i j l m o:Int)(t:Bool)(a b c d p:Int)(k1:ae->Bool->Op α)(k2:Int->Int->Op α)(k3:Op α)(k4:ae->Int->Int->Bool->Op α):Op α:=
 fv α e g h i j l m o a b c d
 (fun w=>cK (w == 2)
 (k1 [[DC.v (.int .i64 0)]] t)
 (eE α a b
 (fun q=>eE α c d
 (fun r=>lF α
 (fv α e g h i j l m o q q r r
 (fun z=>cK (z == 0)
 (k2 q r)
 (jy α a b c d
 (fun s=>uq α p s
 (fun A=>cK A
 (k3)
 (jX α a b c d s
 (fun B C D F U=>tq α e g h i j l m o [[DC.v (.int .i64 s)]] t a B c C (w64 (p+1))
 (fun G H=>tq α e g h i j l m o G H D b F d (w64 (p+1))
 (fun I J=>k1 I J)
 (fun L M N O=>k4 L M N O))
 (fun P Q R T=>k4 P Q R T))))))))))))
def KQ:ab2:=sld ad6
def acI:PT (List DV):=pA [pV false [(dMr [dL,dL,(dI .i64),(dI .i64),(dI .i64),(dI .i64),(dI .i64),(dI .i64),(dI .i64),(dI .i64),(dI .i64),(dI .i64),(dI .i64),dON,dNP,dB] 0)],pV true [(dI .i64),(dI .i64),(dI .i64),(dI .i64)],vI]
def af8 (v:ab2)(α:Type)(k:RT α):ae->ae->Int->Int->Int->Int->Int->Int->Int->Int->Int->Int->Int->Bool->I5 (Op α):=fun m a b c d e g o p q r h i s t w z A B=>v α a b c d e g h i s t w z A B (fun j l=>md k true m a b c d e g o p q r h i j l) (fun j l=>adR k false m a b c d e g o p q r h i ([]:ae) j l s) (aeN k true m a b c d e g o p q r h i ([]:ae) true) (fun j l C D=>lP k false m a b c d e g o p q r h i j l C D)
def azv:ag:=(ag.put (.m [⟨HR,TO uq⟩]) [1,1,1,1,0] (emb nl))
theorem azx:ak Pg 96 89 ⟨acI,af8 KQ⟩:=iZ azn (ah Tryz.func96 (by kernel_rfl)) zq azv ((an _ _).trans (aA _)) (aL (by kernel_rfl) (aD nl) ⟨an4,trivial⟩) fun _ _=>by kernel_rfl
def Pt:SG:=[(11,[.sl]),(16,iS 9),(17,iS 9),(18,[.sl,.sl,.int .i64,.int .i64]),(19,iS 9),(24,iS 9),(39,iT),(46,iT),(51,[.bool]),(56,[.sl])]
def aIK:TG:=[tT 0 [1,4],tT 1 [1,4,5],tT 2 [1,4,5,6],tT 3 [1,4,5,6,11,12,13],tT 4 [1,4,5,6,11,12,13,14],tT 5 [1,4,5,6,7,8,11,12,13],tT 6 [1,4,5,6,7,8,9,11,12,13],tT 7 [1,4,5,6,7,9,11,12,13],tT 8 [1,4,5,6,7,9,11,12,13,31],(9,⟨[2,3,4],true,[],[3]⟩),tT 10 [1,4,5,6,9,11,12,13,51],tT 11 [1,4,5,6,9,11,12,13],tT 12 [1,4,5,6,11,12,13],tT 13 [1,4,5,6,11,12,13],tT 14 [4,5,6,61],tT 15 [4,5,6],(16,⟨[2,3,4],true,[],[3]⟩)]
def aK4:TG:=[(4,⟨[1,4,5,6,11,12,13],true,[⟨false,5,0,20005,1⟩,⟨false,11,0,20011,9⟩,⟨true,1,0,30100,9⟩,⟨true,1,1,30101,5⟩,⟨true,22,0,32200,9⟩,⟨true,22,1,32201,5⟩,⟨true,22,13,32213,1⟩],[]⟩)]
def abP:ap:=aw Pg Tryz.f71 aIK aK4
def wC:OT:=tdC (ag.sub [1,1,1,0,1,0] (emb abP))
def An:PT St:=pS [sP 1,sP 4,sl 5 (aV false [(dz 20005)]),sI 6,sI 7,sP 8,sl 9 (aV false [(cC 22 0)]),sl 11 (aV false [(cD dL)]),sI 12,sI 13] [au 1 [(cD dL),(cD dL),xI,xI],au 4 (xs 3),dA 20005 1,au 8 (xs 9),au 22 [(cD dL),(cD dL),xI,xI,xI,xI,xI,xI,xI,xI,xI,xI,xI,NY,(cD dNP),(cD dB)]]
def aIm {β:Type}(g:St->β):Int->Int->ae->Int->Int->ae->ae->Int->Int->Int->Int->Int->ae->Int->Int->Int->Int->Int->Int->Int->Int->Int->ae->ae->Int->Int->Int->Int->Int->Int->Int->Int->Int->Int->Int->Bool->β:=An.unc g
def aoh:PT St:=pS [sP 1,sP 4,sl 5 (aV false [(dz 20005)]),sI 6,sI 7,sl 9 (aV false [(cC 22 0)]),sl 11 (aV false [(cD dL)]),sI 12,sI 13] [au 1 [(cD dL),(cD dL),xI,xI],au 4 (xs 3),dA 20005 1,au 22 [(cD dL),(cD dL),xI,xI,xI,xI,xI,xI,xI,xI,xI,xI,xI,(dz 770026),(cD dNP),(cD dB)],dA 770026 1]
def aoD {β:Type}(g:St->β):Int->Int->ae->Int->Int->ae->ae->Int->Int->Int->Int->Int->ae->ae->ae->Int->Int->Int->Int->Int->Int->Int->Int->Int->Int->Int->Bool->ae->β:=aoh.unc g
def anW:PT St:=pS [sP 1,sP 4,sl 5 (aV false [(dz 20005)]),sI 6,sI 7,sl 9 (aV false [(cC 22 0)]),sl 11 (aV false [(cD dL)]),sI 12,sI 13] [au 1 [(cD dL),(cD dL),xI,xI],au 4 (xs 3),dA 20005 1,au 22 [(cD dL),(cD dL),xI,xI,xI,xI,xI,xI,xI,xI,xI,xI,xI,(cD dL),(cD (dP [(dI .i64),(dI .i64)] 0)),(cD dB)]]
def apW {β:Type}(g:St->β):Int->Int->ae->Int->Int->ae->ae->Int->Int->Int->Int->Int->ae->ae->ae->Int->Int->Int->Int->Int->Int->Int->Int->Int->Int->Int->ae->Int->Int->Bool->β:=anW.unc g
def aow:PT St:=pS [sP 1,sP 4,sl 5 (aV false [(dz 20005)]),sI 6,sI 7,sl 9 (aV false [(cC 22 0)]),sl 11 (aV false [(cD dL)]),sI 12,sI 13] [au 1 [(cD dL),(cD dL),xI,xI],au 4 (xs 3),dA 20005 1,au 22 [(cD dL),(cD dL),xI,xI,xI,xI,xI,xI,xI,xI,xI,xI,xI,(cD dL),(cD dNP),(cD dB)]]
def atJ {β:Type}(g:St->β):Int->Int->ae->Int->Int->ae->ae->Int->Int->Int->Int->Int->ae->ae->ae->Int->Int->Int->Int->Int->Int->Int->Int->Int->Int->Int->ae->Bool->β:=aow.unc g
def aun:PT St:=pS [sP 1,sP 4,sl 5 (aV false [(dz 20005)]),sI 6,sI 7,sl 9 (aV false [(cC 22 0)]),sl 11 (aV false [(cD dL)]),sI 12,sI 13] [au 1 [(cD dL),(cD dL),xI,xI],au 4 (xs 3),dA 20005 1,au 22 [(cD dL),(cD dL),xI,xI,xI,xI,xI,xI,xI,xI,xI,xI,xI,(dz 770026),(cD (dP [(dI .i64),(dI .i64)] 0)),(cD dB)],dA 770026 1]
def aoU {β:Type}(g:St->β):Int->Int->ae->Int->Int->ae->ae->Int->Int->Int->Int->Int->ae->ae->ae->Int->Int->Int->Int->Int->Int->Int->Int->Int->Int->Int->Int->Int->Bool->ae->β:=aun.unc g
def z4:PT St:=pS [sP 1,sP 4,sl 5 (aV false [(dz 20005)]),sI 6,sI 7,sl 9 (aV false [(cC 22 0)]),sl 11 (aV false [(cD dL)]),sI 12,sI 13,sl 31 (aV false [(cD dB)])] [au 1 [(cD dL),(cD dL),xI,xI],au 4 (xs 3),dA 20005 1,au 22 [(cD dL),(cD dL),xI,xI,xI,xI,xI,xI,xI,xI,xI,xI,xI,(dz 770026),(cD dNP),(cD dB)],dA 770026 1]
def aIn {β:Type}(g:St->β):Int->Int->ae->Int->Int->Bool->ae->ae->Int->Int->Int->Int->Int->ae->ae->ae->Int->Int->Int->Int->Int->Int->Int->Int->Int->Int->Int->Bool->ae->β:=z4.unc g
def anF:PT St:=pS [sP 1,sP 4,sl 5 (aV false [(dz 20005)]),sI 6,sl 9 (aV false [(cC 22 0)]),sl 11 (aV false [(cD dL)]),sI 12,sI 13] [au 1 [(cD dL),(cD dL),xI,xI],au 4 (xs 3),dA 20005 1,au 22 [(cD dL),(cD dL),xI,xI,xI,xI,xI,xI,xI,xI,xI,xI,xI,(dz 770026),(cD dNP),(cD dB)],dA 770026 1]
def aoH {β:Type}(g:St->β):Int->ae->Int->Int->ae->ae->Int->Int->Int->Int->Int->ae->ae->ae->Int->Int->Int->Int->Int->Int->Int->Int->Int->Int->Int->Bool->ae->β:=anF.unc g
def at5:PT St:=pS [sP 1,sP 4,sl 5 (aV false [(dz 20005)]),sI 6,sl 9 (aV false [(cC 22 0)]),sl 11 (aV false [(cD dL)]),sI 12,sI 13,sl 51 (aV false [(cD dB)])] [au 1 [(cD dL),(cD dL),xI,xI],au 4 (xs 3),dA 20005 1,au 22 [(cD dL),(cD dL),xI,xI,xI,xI,xI,xI,xI,xI,xI,xI,xI,(dz 770026),(cD dNP),(cD dB)],dA 770026 1]
def atp {β:Type}(g:St->β):Int->ae->Int->Int->Bool->ae->ae->Int->Int->Int->Int->Int->ae->ae->ae->Int->Int->Int->Int->Int->Int->Int->Int->Int->Int->Int->Bool->ae->β:=at5.unc g
def Iq:PT St:=pS [sP 1,sP 4,sl 5 (aV false [(dz 20005)]),sI 6,sl 11 (aV false [(cD dL)]),sI 12,sI 13] [au 1 [(cD dL),(cD dL),xI,xI],au 4 (xs 3),dA 20005 1]
def Jp {β:Type}(g:St->β):Int->ae->Int->Int->ae->ae->Int->Int->Int->Int->Int->ae->β:=Iq.unc g
def alg:PT St:=pS [sP 1,sP 4,sl 5 (aV false [(dz 20005)]),sI 6,sl 11 (aV false [(cD dL)]),sI 12,sI 13,sl 14 (aV false [(cD dB)])] [au 1 [(cD dL),(cD dL),xI,xI],au 4 (xs 3),dA 20005 1]
def sL {β:Type}(g:St->β):Int->ae->Int->Int->Bool->ae->ae->Int->Int->Int->Int->Int->ae->β:=alg.unc g
def DX:aE:=aE.ofIO (⟨96,89,[⟨acI,af8 KQ⟩]⟩::Lz) bw io0
theorem ayl:DX.Ok Pg:=aE.ofIO_ok aO ⟨⟨azx,trivial⟩,Pq⟩
def acx:ag:=ag.sub [1,1,1,0,1,0,0,1,1,0,0,1,1,1,1,0] (emb abP)
def MF (α:Type)(a:Bool)(k1:Op α)(k2:Op α):Op α:=
 cK a
 (k1)
 (k2)
def mW:bV:=sld MF
def J7 (v:bV)(α:Type)(K:KT α):Int->Int->ae->Int->Int->Bool->ae->ae->Int->Int->Int->Int->Int->ae->ae->ae->Int->Int->Int->Int->Int->Int->Int->Int->Int->Int->Int->Bool->ae->Op α:=fun I J b c d L e g h i j l m o p q r s t w z A B C D F G a H=>v α a (aoH (K .normal) 1 b c d e g h i j l m o p q r s t w z A B C D F G a H) (atp (K .normal) I b c d a e g h i j l m o p q r s t w z A B C D F G a H)
theorem aps:∀ (α:Type) (K:KT α),J7 mW α K=z4.unc fun σ=>az Pg DX Pt acx K σ:=aY (fun α K=>by kernel_rfl)
def adv:ag:=ag.sub [1,1,1,0,1,0,0,1,1,0,0,1,1,0] (emb abP)
abbrev Ox:Type 1:=(α:Type)->Int->Int->Int->Int->ae->Int->Int->Int->Int->Int->Int->Int->Bool->(Bool->ae->Op α)->(Int->Int->Op α)->(Op α)->(Int->Int->Bool->ae->Op α)->Op α
def NG (α:Type)(a b c d:Int)(e:ae)(g h i j l m o:Int)(p:Bool)(k1:Bool->ae->Op α)(k2:Int->Int->Op α)(k3:Op α)(k4:Int->Int->Bool->ae->Op α):Op α:=
 F9 α
 (KQ α e g h i j l m o p c d a b 0
 (fun q r=>k1 r q)
 (fun s t=>k2 s t)
 (k3)
 (fun w z A B=>k4 z A B w))
def vz:Ox:=sld NG
def JT (v:Ox)(α:Type)(K:KT α):Int->Int->ae->Int->Int->ae->ae->Int->Int->Int->Int->Int->ae->Int->Int->Int->Int->Int->Int->Int->Int->Int->ae->ae->I11 (Bool->Op α):=fun m o p q r s t w z A B C D T U V M N O P W X F a b c d e g G H I J h i L=>v α M N O P a b c d e g h i L (fun j l=>aoD (K .normal) m o p q r s t w z A B C D F a b c d e g G H I J h i j l) (fun j l=>apW (K .normal) m o p q r s t w z A B C D F a b c d e g G H I J h i ([]:ae) j l L) (atJ (K .normal) m o p q r s t w z A B C D F a b c d e g G H I J h i ([]:ae) true) (fun j l Q R=>aoU (K .normal) m o p q r s t w z A B C D F a b c d e g G H I J h i j l Q R)
theorem aqQ:∀ (α:Type) (K:KT α),JT vz α K=An.unc fun σ=>az Pg DX Pt adv K σ:=aY (fun α K=>by kernel_rfl)
def sY:ag:=ag.sub [1,1,1,0,1,0,0] (ag.put (.m [⟨An,JT vz⟩]) [1,1,1,0,1,0,0,1,1,0,0,1,1] (ag.put (.m [⟨z4,J7 mW⟩]) [1,1,1,0,1,0,0,1,1,0,0,1,1,1,1] (emb abP)))
def ua (α:Type)(g:ae)(d:Int)(h:ae)(i j e a:Int)(b:ae)(kn:Int->Int->ae->Op α)(k1:Int->Int->Int->Op α)(k2:Int->Int->Bool->ae->Op α):Op α:=
 cK (decide (a < d))
 (dE g a [.int .i64,.int .i64,.int .i64,.int .i64,.int .i64,.int .i64,.int .i64,.int .i64,.int .i64]
 (fun l m o p q r s t w=>vz α p q r s h i j l m o t w false
 (fun z c=>mW α z
 (gK (cj 1 24 b [[DC.sl c]]) (kn 1 (w64 (a+1)) (b++[[DC.sl c]])))
 (gK (cj 1 24 b [[DC.sl c]]) (kn e (w64 (a+1)) (b++[[DC.sl c]]))))
 (fun A B=>k1 a A B)
 (gK (cj 1 24 b [[DC.sl ([]:ae)]]) (kn 1 (w64 (a+1)) (b++[[DC.sl ([]:ae)]])))
 (fun C D F G=>k1 a C D)))
 (k2 e a (decide (a < d)) b)
def mq (α:Type)(a:ae)(b:Int)(c:ae)(d e:Int)(k1:Int->Int->Int->Op α)(k2:Int->Int->Bool->ae->Op α):Nat->Int->Int->ae->Op α
 | 0,_,_,_=>none
 | n+1,g,h,i=>ua α a b c d e g h i (mq α a b c d e k1 k2 n) k1 k2
def M1 (α:Type)(a:ae)(b:Int)(c:ae)(d e:Int)(k1:Int->Int->Int->Op α)(k2:Int->Int->Bool->ae->Op α)(g h:Int)(i:ae):Op α:=mq α a b c d e k1 k2 aG g h i
abbrev Nt:Type 1:=(α:Type)->ae->Int->ae->Int->Int->(Int->Int->Int->Op α)->(Int->Int->Bool->ae->Op α)->Int->Int->ae->Op α
def AT:Nt:=sld M1
def RH (v:Nt)(α:Type)(K:KT α):Int->ae->Int->Int->ae->ae->Int->Int->Int->Int->Int->ae->Op α:=fun j d e l m g h i o p q r=>v α d e g h i (fun a b c=>kc (K .ret) 0 ([]:ae) a b c) (fun a b c s=>sL (K (.exit 0)) a d e b c m g h i o p q s) j l r
theorem aqt (α:Type)(K:KT α)(Kn:SK α)(a:Int)(b:ae)(c d:Int)(j e:ae)(g h l m o:Int)(i:ae):Jp (fun σ=>az Pg DX Pt sY (bM (fun σ=>br wC σ Kn) K) σ) a b c d j e g h l m o i=ua α b c e g h a d i (fun a d i=>Jp Kn a b c d j e g h l m o i) (fun p q r=>kc (K .ret) 0 ([]:ae) p q r) (fun p q r s=>sL (K (.exit 0)) p b c q r j e g h l m o s):=by kernel_rfl
theorem amT (α:Type)(K:KT α):∀ (n:Nat) (g:Int) (a:ae) (b h:Int) (o c:ae) (d e p q r:Int) (i:ae),mq α a b c d e (fun j l m=>kc (K .ret) 0 ([]:ae) j l m) (fun j l m s=>sL (K (.exit 0)) j a b l m o c d e p q r s) n g h i=Jp (aK (az Pg DX Pt sY) wC K n) g a b h o c d e p q r i:=by
 intro n
 induction n with
 | zero=>intros;rfl
 | succ n ih=>intro g a b h o c d e p q r i;exact (congrArg (fun kn=>ua α a b c d e g h i kn (fun j l m=>kc (K .ret) 0 ([]:ae) j l m) (fun j l m s=>sL (K (.exit 0)) j a b l m o c d e p q r s)) (funext fun g=>funext fun h=>funext fun i=>ih g a b h o c d e p q r i)).trans (aqt α K (aK (az Pg DX Pt sY) wC K n) g a b h o c d e p q r i).symm
theorem aoT:∀ (α:Type) (K:KT α),RH AT α K=Iq.unc fun σ=>aK (az Pg DX Pt sY) wC K aG σ:=aY (fun α K=>funext fun a=>funext fun b=>funext fun c=>funext fun d=>funext fun e=>funext fun g=>funext fun h=>funext fun i=>funext fun j=>funext fun l=>funext fun m=>funext fun o=>amT α K aG a b c d e g h i j l m o)
def alT (α:Type)(b c:ae)(d e:Int)(k1:Int->ae->Int->Int->Int->Op α):Op α:=
 AT α b ((List.length b:Nat):Int) c d e
 (fun g h i=>k1 0 ([]:ae) g h i)
 (fun a l m j=>cK (a != 2)
 (k1 a ([]:ae) 0 0 0)
 (k1 a j 0 0 0)) 2 0 ([]:ae)
def Yg:J3:=sld alT
def alN (v:J3)(α:Type)(k:RT α):ae->ae->Int->Int->Op α:=fun a b c d=>v α a b c d (fun e g h i j=>L2 k e g h i j)
def azz:ag:=(ag.put (.m [⟨Iq,RH AT⟩]) [1,1,1,0,1,0] (ag.put (.m [⟨An,JT vz⟩]) [1,1,1,0,1,0,0,1,1,0,0,1,1] (ag.put (.m [⟨z4,J7 mW⟩]) [1,1,1,0,1,0,0,1,1,0,0,1,1,1,1] (emb abP))))
theorem awA:ak Pg 71 65 ⟨kQ,alN Yg⟩:=iZ ayl (ah Tryz.func71 (by kernel_rfl)) Pt azz ((an _ _).trans ((an _ _).trans ((an _ _).trans (aA _)))) (aZ (td:=wC) (by kernel_rfl) (aL (by kernel_rfl) (aL (by kernel_rfl) (aD abP) ⟨aps,trivial⟩) ⟨aqQ,trivial⟩) ⟨aoT,trivial⟩) fun _ _=>by kernel_rfl
def aIW:SG:=[(12,[.sl,.sl,.int .i64,.int .i64]),(21,[.sl,.sl,.int .i64,.int .i64]),(28,iS 3)]
def aJk:TG:=[tT 0 [1,4],tT 1 [1,4,7],tT 2 [1,4,7,17],(3,⟨[2,3,4,5],true,[],[3]⟩),tT 4 [4,8,9,10],tT 5 [2,3,4,5]]
def aIZ:ap:=aw Pg Tryz.f35 aJk aC
def ahh:PT (List RV):=pRs [wI,pR false [rD dL],pR true [rD (dI .i64),rD (dI .i64),rD (dI .i64)],wI]
def aht {β:Type}(g:List RV->β):Int->ae->I4 β:=ahh.unc g
noncomputable abbrev ay9:List bE:=⟨71,65,[⟨kQ,alN Yg⟩]⟩::Lz
theorem az7:bJ ay9 fun c=>bJ c.l (ak Pg c.f c.nt):=⟨⟨awA,trivial⟩,Pq⟩
def aJZ:aE:=aE.ofIO ay9 bw io0
theorem aJw:aJZ.Ok Pg:=aE.ofIO_ok aO az7
abbrev afS:Type 1:=(α:Type)->ae->ae->Int->Int->(Int->ae->I4 (Op α))->Op α
def akl (α:Type)(a b:ae)(c d:Int)(k1:Int->ae->I4 (Op α)):Op α:=
 za α a b c d
 (fun m e=>cK (e != 0)
 (k1 0 ([]:ae) 0 0 0 e)
 (Yg α a b c d
 (fun g h i j l=>k1 g h i j l 0)))
def Lg:afS:=sld akl
def aji (v:afS)(α:Type)(k:RT α):ae->ae->Int->Int->Op α:=fun a b c d=>v α a b c d (fun e g h i j l=>aht k e g h i j l)
theorem ayp:ak Pg 35 29 ⟨kQ,aji Lg⟩:=iP aJw aIZ (ah Tryz.func35 (by kernel_rfl)) aIW fun _ _=>by kernel_rfl
def aJJ:SG:=[(11,[.sl,.sl,.int .i64,.sl,.int .i64,.int .i64]),(21,[.sl]),(24,iS 2),(32,iS 3)]
def aJ2:TG:=[tT 0 [1,3],tT 1 [1,3,5,6],tT 2 [1,3,5,6,16],tT 3 [2,3,4],tT 4 [3,6,7,9],tT 5 [2,3,4]]
def aJi:ap:=aw Pg Tryz.f12 aJ2 aC
noncomputable abbrev axD:List bE:=⟨35,29,[⟨kQ,aji Lg⟩]⟩::ay9
theorem aFn:bJ axD fun c=>bJ c.l (ak Pg c.f c.nt):=⟨⟨ayp,trivial⟩,az7⟩
def aKD:aE:=aE.ofIO axD bw io0
theorem aIF:aKD.Ok Pg:=aE.ofIO_ok aO aFn
def afJ (α:Type)(b c:ae)(d:Int)(e:ae)(g h:Int)(k1:I5 (Op α)):Op α:=
 BI α b c d
 (fun i a=>cK (a != 0)
 (k1 0 0 0 0 a)
 (Lg α e i g h
 (fun j q l m o p=>k1 j l m o p)))
def HB:Kx:=sld afJ
def afu (v:Kx)(α:Type)(k:RT α):ae->ae->Int->ae->Int->Int->Op α:=fun a b c d e g=>v α a b c d e g (fun h i j l m=>LK k h i j l m)
theorem ayG:ak Pg 12 34 ⟨fx,afu HB⟩:=iP aIF aJi (ah Tryz.func12 (by kernel_rfl)) aJJ fun _ _=>by kernel_rfl
end
end Go.AM.K
