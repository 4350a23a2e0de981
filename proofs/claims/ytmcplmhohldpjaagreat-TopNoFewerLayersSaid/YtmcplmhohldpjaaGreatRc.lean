/- Printed by KGen. -/
import Derived.Test.YtmcplmhohldpjaaGreatRb
namespace Go.AM.K
open Go.Proofs
set_option maxRecDepth 100000
set_option linter.unusedVariables false
noncomputable section
def anR:TG:=[tT 0 [1],tT 1 [2]]
def amt:au:=aB Pg Tryz.f147 anR aR
def Ly (α:Type)(a b:Int)(k1:Int->Op α):Op α:=
 ja α a b
 (fun c=>m6 α c
 (fun d=>k1 d))
def lQ:dt:=sld Ly
def Le (v:dt)(α:Type)(k:RT α):Int->Int->Op α:=fun a b=>v α a b (fun c=>bu k c)
theorem agw:al Pg 147 6 ⟨bD,Le lQ⟩:=iP ek3 amt (ag Tryz.func147 (by kernel_rfl)) ah6 fun _ _=>by kernel_rfl
def mD:SG:=[(16,[.flt .f64,.flt .f64]),(25,[.flt .f64,.flt .f64])]
def amL:TG:=[tT 0 [0,1,4],tT 1 [0,1,4,6],tT 2 [0,1,4,6,16,17],tT 3 [0,1,4,6,16,17,18],tT 4 [0,1,4,6,8,16,17],tT 5 [0,1,4,6,16,17,22],tT 6 [4,5],tT 7 [0,1,4,6,16,17],tT 8 [0,1,4,25,26],tT 9 [0,1,4,25,26,27],tT 10 [0,1,4,10,25,26],tT 11 [0,1,4,25,26,32],tT 12 [4,5],tT 13 [0,1,4,25,26],tT 14 [4,5]]
def anW:TG:=[tT 3 [0,1,4,6,16,17],tT 9 [0,1,4,25,26]]
def vM:au:=aB Pg Tryz.f145 amL anW
def sO:OT:=tdC (ah.sub [1,1,0,1,0] (emb vM))
def ng:OT:=tdC (ah.sub [1,1,1,0,1,0] (emb vM))
def sr:PT St:=pS [sY 0 (dX .f64),sY 1 (dF .f64),sP 4,sP 6,sl 16 (aV true [(cD (dF .f64)),(cD (dF .f64))]),sI 17,sY 18 dB] [az 4 [xI,xI],az 6 [(cD (dF .f64)),(cD (dF .f64))]]
def qS {β:Type}(g:St->β):Nat->Nat->Nat->Nat->Nat->Int->Bool->Int->Int->Nat->Nat->β:=sr.unc g
def YL:PT St:=pS [sY 0 (dX .f64),sY 1 (dF .f64),sP 4,sP 6,sY 8 (dF .f64),sl 16 (aV true [(cD (dF .f64)),(cD (dF .f64))]),sI 17] [az 4 [xI,xI],az 6 [(cD (dF .f64)),(cD (dF .f64))]]
def WF {β:Type}(g:St->β):Nat->Nat->Nat->Nat->Nat->Nat->Int->Int->Int->Nat->Nat->β:=YL.unc g
def zf:PT St:=pS [sY 0 (dX .f64),sY 1 (dF .f64),sP 4,sP 6,sl 16 (aV true [(cD (dF .f64)),(cD (dF .f64))]),sI 17] [az 4 [xI,xI],az 6 [(cD (dF .f64)),(cD (dF .f64))]]
def yA {β:Type}(g:St->β):Nat->Nat->Nat->Nat->Nat->Int->Int->Int->Nat->Nat->β:=zf.unc g
def Ve:PT St:=pS [sP 4,sI 5] [az 4 [xI,xI]]
def g8 {β:Type}(g:St->β):Int->Int->Int->β:=Ve.unc g
def qW:PT St:=pS [sY 0 (dX .f64),sY 1 (dF .f64),sP 4,sl 25 (aV true [(cD (dF .f64)),(cD (dF .f64))]),sI 26,sY 27 dB] [az 4 [xI,xI]]
def rE {β:Type}(g:St->β):Nat->Nat->Nat->Nat->Nat->Int->Bool->Int->Int->β:=qW.unc g
def Yc:PT St:=pS [sY 0 (dX .f64),sY 1 (dF .f64),sP 4,sY 10 (dF .f64),sl 25 (aV true [(cD (dF .f64)),(cD (dF .f64))]),sI 26] [az 4 [xI,xI]]
def Wf {β:Type}(g:St->β):Nat->Nat->Nat->Nat->Nat->Nat->Int->Int->Int->β:=Yc.unc g
def yW:PT St:=pS [sY 0 (dX .f64),sY 1 (dF .f64),sP 4,sl 25 (aV true [(cD (dF .f64)),(cD (dF .f64))]),sI 26] [az 4 [xI,xI]]
def Bv {β:Type}(g:St->β):Nat->Nat->Nat->Nat->Nat->Int->Int->Int->β:=yW.unc g
def QR:ah:=ah.sub [1,1,1,0,1,0,0,1,1,0,0,0] (emb vM)
abbrev ot:Type 1:=(α:Type)->Nat->Nat->Int->(Nat->Op α)->Op α
def Dq (α:Type)(b c:Nat)(a:Int)(k1:Nat->Op α):Op α:=
 cK (a == 1)
 (k1 c)
 (cK (a == 0)
 (k1 b)
 (none))
def mz:ot:=sld Dq
def Bb (v:ot)(α:Type)(K:KT α):Nat->Nat->Nat->Nat->Nat->Int->Bool->Int->Int->Op α:=fun d e g a b c l h i=>v α a b c (fun j=>Wf (K .normal) d e g j a b c h i)
theorem V8:∀ (α:Type) (K:KT α),Bb mz α K=qW.unc fun σ=>aF Pg Ek3 mD QR K σ:=bR (fun α K=>by kernel_rfl)
def oG:ah:=ah.sub [1,1,1,0,1,0,0] (ah.put (.m [⟨qW,Bb mz⟩]) [1,1,1,0,1,0,0,1,1,0,0] (emb vM))
def tC (α:Type)(b c d:Nat)(a:Int)(kn:Int->Op α)(k1:Op α)(k2:Int->Bool->Op α):Op α:=
 cK (decide (a < 2))
 (mz α c d a
 (fun e=>uf α e
 (fun g=>cK ((FloatKind.format .f64).order g b == some Ordering.gt)
 (k1)
 (kn (w64 (a+1))))))
 (k2 a (decide (a < 2)))
def rn (α:Type)(a b c:Nat)(k1:Op α)(k2:Int->Bool->Op α):Nat->Int->Op α
 | 0,_=>none
 | n+1,d=>tC α a b c d (rn α a b c k1 k2 n) k1 k2
def Co (α:Type)(a b c:Nat)(k1:Op α)(k2:Int->Bool->Op α)(d:Int):Op α:=rn α a b c k1 k2 aN d
abbrev DI:Type 1:=(α:Type)->Nat->Nat->Nat->(Op α)->(Int->Bool->Op α)->Int->Op α
def ss:DI:=sld Co
def IM (v:DI)(α:Type)(K:KT α):Nat->Nat->Nat->Nat->Nat->Int->Int->Int->Op α:=fun d e a b c g h i=>v α a b c (g8 (K .ret) 2 0 0) (fun j l=>rE (K (.exit 2)) d e a b c j l h i) g
theorem TV (α:Type)(K:KT α)(Kn:SK α)(e g a b c:Nat)(d h i:Int):Bv (fun σ=>aF Pg Ek3 mD oG (cX (fun σ=>bW ng σ Kn) K) σ) e g a b c d h i=tC α a b c d (fun d=>Bv Kn e g a b c d h i) (g8 (K .ret) 2 0 0) (fun j l=>rE (K (.exit 2)) e g a b c j l h i):=by kernel_rfl
theorem YN (α:Type)(K:KT α):∀ (n:Nat) (e g a b c:Nat) (d h i:Int),rn α a b c (g8 (K .ret) 2 0 0) (fun j l=>rE (K (.exit 2)) e g a b c j l h i) n d=Bv (aS (aF Pg Ek3 mD oG) ng K n) e g a b c d h i:=by
 intro n
 induction n with
 | zero=>intros;rfl
 | succ n ih=>intro e g a b c d h i;exact (congrArg (fun kn=>tC α a b c d kn (g8 (K .ret) 2 0 0) (fun j l=>rE (K (.exit 2)) e g a b c j l h i)) (funext fun d=>ih e g a b c d h i)).trans (TV α K (aS (aF Pg Ek3 mD oG) ng K n) e g a b c d h i).symm
theorem Wj:∀ (α:Type) (K:KT α),IM ss α K=yW.unc fun σ=>aS (aF Pg Ek3 mD oG) ng K aN σ:=bR (fun α K=>funext fun a=>funext fun b=>funext fun c=>funext fun d=>funext fun e=>funext fun g=>funext fun h=>funext fun i=>YN α K aN a b c d e g h i)
def RO:ah:=ah.sub [1,1,0,1,0,0,1,1,0,0,0] (emb vM)
def C2 (α:Type)(b c:Nat)(a:Int)(k1:Nat->Op α):Op α:=
 cK (a == 1)
 (k1 c)
 (cK (a == 0)
 (k1 b)
 (none))
def nV:ot:=sld C2
def yf (v:ot)(α:Type)(K:KT α):Nat->Nat->Nat->Nat->Nat->Int->Bool->Int->Int->Nat->Nat->Op α:=fun d e g a b c o h i j l=>v α a b c (fun m=>WF (K .normal) d e g m a b c h i j l)
theorem aaO:∀ (α:Type) (K:KT α),yf nV α K=sr.unc fun σ=>aF Pg Ek3 mD RO K σ:=bR (fun α K=>by kernel_rfl)
def sD:ah:=ah.sub [1,1,0,1,0,0] (ah.put (.m [⟨sr,yf nV⟩]) [1,1,0,1,0,0,1,1,0,0] (emb vM))
def tJ (α:Type)(b c:Nat)(a:Int)(kn:Int->Op α)(k1:Op α)(k2:Int->Bool->Op α):Op α:=
 cK (decide (a < 2))
 (nV α b c a
 (fun d=>Ba α d
 (fun e=>cK (!e)
 (k1)
 (kn (w64 (a+1))))))
 (k2 a (decide (a < 2)))
def sQ (α:Type)(a b:Nat)(k1:Op α)(k2:Int->Bool->Op α):Nat->Int->Op α
 | 0,_=>none
 | n+1,c=>tJ α a b c (sQ α a b k1 k2 n) k1 k2
def BP (α:Type)(a b:Nat)(k1:Op α)(k2:Int->Bool->Op α)(c:Int):Op α:=sQ α a b k1 k2 aN c
abbrev Ci:Type 1:=(α:Type)->Nat->Nat->(Op α)->(Int->Bool->Op α)->Int->Op α
def rA:Ci:=sld BP
def IH (v:Ci)(α:Type)(K:KT α):Nat->Nat->Nat->Nat->Nat->Int->Int->Int->Nat->Nat->Op α:=fun c d e a b g h i j l=>v α a b (g8 (K .ret) 27 0 0) (fun m o=>qS (K (.exit 0)) c d e a b m o h i j l) g
theorem WJ (α:Type)(K:KT α)(Kn:SK α)(d e g a b:Nat)(c h i:Int)(j l:Nat):yA (fun σ=>aF Pg Ek3 mD sD (cX (fun σ=>bW sO σ Kn) K) σ) d e g a b c h i j l=tJ α a b c (fun c=>yA Kn d e g a b c h i j l) (g8 (K .ret) 27 0 0) (fun m o=>qS (K (.exit 0)) d e g a b m o h i j l):=by kernel_rfl
theorem Wd (α:Type)(K:KT α):∀ (n:Nat) (d e g a b:Nat) (c h i:Int) (j l:Nat),sQ α a b (g8 (K .ret) 27 0 0) (fun m o=>qS (K (.exit 0)) d e g a b m o h i j l) n c=yA (aS (aF Pg Ek3 mD sD) sO K n) d e g a b c h i j l:=by
 intro n
 induction n with
 | zero=>intros;rfl
 | succ n ih=>intro d e g a b c h i j l;exact (congrArg (fun kn=>tJ α a b c kn (g8 (K .ret) 27 0 0) (fun m o=>qS (K (.exit 0)) d e g a b m o h i j l)) (funext fun c=>ih d e g a b c h i j l)).trans (WJ α K (aS (aF Pg Ek3 mD sD) sO K n) d e g a b c h i j l).symm
theorem WD:∀ (α:Type) (K:KT α),IH rA α K=zf.unc fun σ=>aS (aF Pg Ek3 mD sD) sO K aN σ:=bR (fun α K=>funext fun a=>funext fun b=>funext fun c=>funext fun d=>funext fun e=>funext fun g=>funext fun h=>funext fun i=>funext fun j=>funext fun l=>Wd α K aN a b c d e g h i j l)
abbrev QG:Type 1:=(α:Type)->Nat->Nat->Nat->(Int->Int->Int->Op α)->Op α
def Qd (α:Type)(a b c:Nat)(k1:Int->Int->Int->Op α):Op α:=
 rA α a b
 (k1 0 0 27)
 (fun g h=>ss α c a b
 (k1 0 0 2)
 (fun i j=>EO α a b
 (fun d e=>k1 d e 0)) 0) 0
def Ai:QG:=sld Qd
def Kt:PT (List DV):=pA [pV false [(dX .f64)],pV false [(dF .f64)]]
def P8 (v:QG)(α:Type)(k:RT α):Nat->Nat->Nat->Op α:=fun a b c=>v α a b c (fun d e g=>oL k d e g)
def ad8:ah:=(ah.put (.m [⟨zf,IH rA⟩]) [1,1,0,1,0] (ah.put (.m [⟨sr,yf nV⟩]) [1,1,0,1,0,0,1,1,0,0] (ah.put (.m [⟨yW,IM ss⟩]) [1,1,1,0,1,0] (ah.put (.m [⟨qW,Bb mz⟩]) [1,1,1,0,1,0,0,1,1,0,0] (emb vM)))))
theorem aek:al Pg 145 37 ⟨Kt,P8 Ai⟩:=iZ ek3 (ag Tryz.func145 (by kernel_rfl)) mD ad8 ((aA _ _).trans ((aA _ _).trans ((aA _ _).trans ((aA _ _).trans (aG _))))) (bK (td:=sO) (by kernel_rfl) (bc (by kernel_rfl) (bK (td:=ng) (by kernel_rfl) (bc (by kernel_rfl) (aK vM) ⟨V8,TT⟩) ⟨Wj,TT⟩) ⟨aaO,TT⟩) ⟨WD,TT⟩) fun _ _=>by kernel_rfl
def apU:TG:=[tT 0 [0,1,4],tT 1 [0,1,4,15],tT 2 [4,5],tT 3 [4,6,7],tT 4 [4,5]]
def apy:au:=aB Pg Tryz.f179 apU aR
abbrev fO:Type 1:=(α:Type)->Int->Int->(Nat->Nat->Int->Int->Op α)->Op α
def Ov (α:Type)(a b:Int)(k1:Nat->Nat->Int->Int->Op α):Op α:=
 iV α a 1000000000
 (fun c=>cK (!c)
 (k1 0 0 0 2)
 (kq α b 1 1000000000
 (fun d=>cK (!d)
 (k1 0 0 0 2)
 (lS α (w64 (a*1048576)) b
 (fun e g=>jw α g
 (fun h=>fT α e 0 h
 (fun i j l m=>k1 i j l m)))))))
def z0:fO:=sld Ov
def P6 (v:fO)(α:Type)(k:RT α):Int->Int->Op α:=fun a b=>v α a b (fun c d e g=>bv k c d e g)
theorem aeN:al Pg 179 32 ⟨dr,P6 z0⟩:=iP ek3 apy (ag Tryz.func179 (by kernel_rfl)) br fun _ _=>by kernel_rfl
def ahA:SG:=[(7,iT),(12,iT),(19,iT),(21,iT),(25,iT),(27,iT),(33,iT)]
def aoq:TG:=[tT 0 [1,2],tT 1 [1,2,5],tT 2 [2,3],tT 3 [1,2,17],tT 4 [2,3],tT 5 [1,2,4],tT 6 [2,3]]
def VX:au:=aB Pg Tryz.f136 aoq aR
def zO:PT St:=pS [sP 1,sP 2] [az 1 [xI,xI],az 2 [(cD (dX .f64)),xI]]
def apI {β:Type}(g:St->β):Int->Int->Nat->Nat->Int->β:=zO.unc g
def Z8:PT St:=pS [sP 1,sP 2,sY 5 dB] [az 1 [xI,xI],az 2 [(cD (dX .f64)),xI]]
def WH {β:Type}(g:St->β):Bool->Int->Int->Nat->Nat->Int->β:=Z8.unc g
def Wb:ah:=ah.sub [1,0,0,0] (emb VX)
def CX (α:Type)(a b:Int)(k1:Bool->Op α):Op α:=
 iV α a 67108864
 (fun c=>cK (!c)
 (k1 true)
 (iV α b 67108864
 (fun d=>k1 (!d))))
def sN:bN:=sld CX
def GR (v:bN)(α:Type)(K:KT α):Int->Int->Nat->Nat->Int->Op α:=fun a b c d e=>v α a b (fun g=>WH (K .normal) g a b c d e)
theorem WA:∀ (α:Type) (K:KT α),GR sN α K=zO.unc fun σ=>aF Pg Ek3 ahA Wb K σ:=bR (fun α K=>by kernel_rfl)
def OV (α:Type)(b a:Int)(k1:Nat->Nat->Int->Int->Op α):Op α:=
 sN α b a
 (fun d=>cK d
 (k1 0 0 0 2)
 (cK (decide (a < b))
 (k1 0 0 0 10)
 (jc α (w64 (b+a)) 2
 (fun c=>fT α c 0 (w64 (a - c))
 (fun e g h i=>k1 e g h i)))))
def lT:fO:=sld OV
def PB (v:fO)(α:Type)(k:RT α):Int->Int->Op α:=fun a b=>v α a b (fun c d e g=>bv k c d e g)
def adn:ah:=(ah.put (.m [⟨zO,GR sN⟩]) [1,0,0] (emb VX))
theorem ado:al Pg 136 40 ⟨bD,PB lT⟩:=iZ ek3 (ag Tryz.func136 (by kernel_rfl)) ahA adn ((aA _ _).trans (aG _)) (bc (by kernel_rfl) (aK VX) ⟨WA,TT⟩) fun _ _=>by kernel_rfl
def Sj:SG:=[(9,iT),(13,iS 2),(19,iT),(23,iS 2),(29,[.sl]),(33,[.sl]),(38,iS 5),(39,iS 5),(43,iT),(49,iT),(56,iT),(63,iT),(69,iT),(78,iT),(81,iT),(86,iT),(89,iT),(97,iT),(103,iT)]
def ar8:TG:=[tT 0 [1],tT 1 [1,11],tT 2 [2,3],tT 3 [1,4],tT 4 [1,4,16],tT 5 [2,3],tT 6 [1,21],tT 7 [2,3],tT 8 [1,5],tT 9 [1,5,26],tT 10 [2,3],tT 11 [1,31],tT 12 [2,3],tT 13 [1,33,34,35],tT 14 [1,33,34,35,36],tT 15 [1,6,7,33,34,35],tT 16 [1,6,7,33,34,35,40],tT 17 [2,3],tT 18 [1,6,33,34,35,75],tT 19 [2,3],tT 20 [1,33,34,35],tT 21 [106],tT 22 [2,3],tT 23 [2,3]]
def ar4:TG:=[(14,⟨[1,33,34,35],true,[⟨false,33,0,20033,5⟩,⟨true,1,6,30106,5⟩],[]⟩)]
def Vh:au:=aB Pg Tryz.f70 ar8 ar4
def qJ:OT:=tdC (ah.sub [1,1,1,1,1,1,0,1,0] (emb Vh))
def xk:PT St:=pS [sP 1,sI 6,sP 7,sY 33 dL,sI 34,sI 35] [az 1 [xI,xI,xI,xI,xI,xI,(cD dL),xI,xI],az 7 (xs 5)]
def arw {β:Type}(g:St->β):Int->ae->Int->Int->Int->Int->Int->Int->Int->Int->ae->I7 β:=xk.unc g
def adq:PT St:=pS [sP 1,sI 6,sP 7,sY 33 dL,sI 34,sI 35,sY 40 dB] [az 1 [xI,xI,xI,xI,xI,xI,(cD dL),xI,xI],az 7 (xs 5)]
def abZ {β:Type}(g:St->β):Int->ae->Int->Int->Bool->Int->Int->Int->Int->Int->Int->ae->I7 β:=adq.unc g
def Fl:PT St:=pS [sP 1,sY 33 dL,sI 34,sI 35] [az 1 [xI,xI,xI,xI,xI,xI,(cD dL),xI,xI]]
def DR {β:Type}(g:St->β):ae->Int->Int->Int->Int->Int->Int->Int->Int->ae->Int->Int->β:=Fl.unc g
def adR:PT St:=pS [sI 2,sI 3] []
def dQ {β:Type}(g:St->β):Int->Int->β:=adR.unc g
def acE:PT St:=pS [sP 1,sY 33 dL,sI 34,sI 35,sY 36 dB] [az 1 [xI,xI,xI,xI,xI,xI,(cD dL),xI,xI]]
def w5 {β:Type}(g:St->β):ae->Int->Int->Bool->Int->Int->Int->Int->Int->Int->ae->Int->Int->β:=acE.unc g
def S0:PT (List RV):=pRs [wI,wI]
def ia {β:Type}(g:List RV->β):Int->Int->β:=S0.unc g
def UX:ah:=ah.sub [1,1,1,1,1,1,0,1,0,0,1,1,0,0,1,0,0] (emb Vh)
abbrev G4:Type 1:=(α:Type)->Int->Int->Int->Int->Int->(Bool->Op α)->Op α
def Iz (α:Type)(a b c d e:Int)(k1:Bool->Op α):Op α:=
 nD α a
 (fun g=>cK (!g)
 (k1 true)
 (nD α b
 (fun h=>cK (!h)
 (k1 true)
 (zt α c
 (fun i=>cK (!i)
 (k1 true)
 (zt α d
 (fun j=>cK (!j)
 (k1 true)
 (vj α e
 (fun l=>k1 (!l))))))))))
def ph:G4:=sld Iz
def Fm (v:G4)(α:Type)(K:KT α):Int->ae->Int->Int->Int->Int->Int->Int->Int->Int->ae->I7 (Op α):=fun g h i j l m o p q r s t w a b c d e=>v α a b c d e (fun z=>abZ (K .normal) g h i j z l m o p q r s t w a b c d e)
theorem acM:∀ (α:Type) (K:KT α),Fm ph α K=xk.unc fun σ=>aF Pg Ek3 Sj UX K σ:=bR (fun α K=>by kernel_rfl)
def tM:ah:=ah.sub [1,1,1,1,1,1,0,1,0,0] (ah.put (.m [⟨xk,Fm ph⟩]) [1,1,1,1,1,1,0,1,0,0,1,1,0,0,1,0] (emb Vh))
def r5 (α:Type)(h:ae)(b a:Int)(kn:Int->Op α)(k1:Int->Int->Op α)(k2:Int->Bool->Op α):Op α:=
 cK (decide (a < b))
 (gI h a [.int .i64,.int .i64,.int .i64,.int .i64,.int .i64]
 (fun c d e g i=>ph α c d e g i
 (fun j=>cK j
 (k1 (w64 (a+1)) 2)
 (cK (decide (d < c))
 (k1 (w64 (a+1)) 10)
 (cK (decide (g < e))
 (k1 (w64 (a+1)) 10)
 (kn (w64 (a+1))))))))
 (k2 a (decide (a < b)))
def oo (α:Type)(a:ae)(b:Int)(k1:Int->Int->Op α)(k2:Int->Bool->Op α):Nat->Int->Op α
 | 0,_=>none
 | n+1,c=>r5 α a b c (oo α a b k1 k2 n) k1 k2
def HX (α:Type)(a:ae)(b:Int)(k1:Int->Int->Op α)(k2:Int->Bool->Op α)(c:Int):Op α:=oo α a b k1 k2 aN c
abbrev rl:Type 1:=(α:Type)->ae->Int->(Int->Int->Op α)->(Int->Bool->Op α)->Int->Op α
def yb:rl:=sld HX
def Qu (v:rl)(α:Type)(K:KT α):ae->Int->Int->Int->Int->Int->Int->Int->Int->ae->Int->Int->Op α:=fun c d e g h i j l m o p q=>v α c d (fun a b=>dQ (K .ret) a b) (fun a b=>w5 (K (.exit 0)) c d a b g h i j l m o p q) e
theorem abe (α:Type)(K:KT α)(Kn:SK α)(a:ae)(b c d e g h i j:Int)(l:ae)(m o:Int):DR (fun σ=>aF Pg Ek3 Sj tM (cX (fun σ=>bW qJ σ Kn) K) σ) a b c d e g h i j l m o=r5 α a b c (fun c=>DR Kn a b c d e g h i j l m o) (fun p q=>dQ (K .ret) p q) (fun p q=>w5 (K (.exit 0)) a b p q d e g h i j l m o):=by kernel_rfl
theorem ae2 (α:Type)(K:KT α):∀ (n:Nat) (a:ae) (b c g h i j l m:Int) (o:ae) (p q:Int),oo α a b (fun d e=>dQ (K .ret) d e) (fun d e=>w5 (K (.exit 0)) a b d e g h i j l m o p q) n c=DR (aS (aF Pg Ek3 Sj tM) qJ K n) a b c g h i j l m o p q:=by
 intro n
 induction n with
 | zero=>intros;rfl
 | succ n ih=>intro a b c g h i j l m o p q;exact (congrArg (fun kn=>r5 α a b c kn (fun d e=>dQ (K .ret) d e) (fun d e=>w5 (K (.exit 0)) a b d e g h i j l m o p q)) (funext fun c=>ih a b c g h i j l m o p q)).trans (abe α K (aS (aF Pg Ek3 Sj tM) qJ K n) a b c g h i j l m o p q).symm
theorem acs:∀ (α:Type) (K:KT α),Qu yb α K=Fl.unc fun σ=>aS (aF Pg Ek3 Sj tM) qJ K aN σ:=bR (fun α K=>funext fun a=>funext fun b=>funext fun c=>funext fun d=>funext fun e=>funext fun g=>funext fun h=>funext fun i=>funext fun j=>funext fun l=>funext fun m=>funext fun o=>ae2 α K aN a b c d e g h i j l m o)
abbrev WQ:Type 1:=(α:Type)->Int->Int->Int->Int->Int->Int->ae->Int->Int->(Int->Int->Op α)->Op α
def WE (α:Type)(d e g h i j:Int)(a:ae)(l m:Int)(k1:Int->Int->Op α):Op α:=
 nD α d
 (fun o=>cK (!o)
 (k1 0 2)
 (Aq α e g
 (fun b=>cK (b != 0)
 (k1 0 b)
 (ke α h 0 1
 (fun p=>cK (!p)
 (k1 0 11)
 (yj α i j
 (fun c=>cK (c != 0)
 (k1 0 c)
 (cK (decide (40 < ((List.length a:Nat):Int)))
 (k1 0 8)
 (yb α a ((List.length a:Nat):Int)
 (fun q r=>k1 q r)
 (fun w z=>nD α l
 (fun s=>cK (!s)
 (k1 0 2)
 (vj α m
 (fun t=>cK (!t)
 (k1 0 2)
 (k1 0 0))))) 0)))))))))
def A2:WQ:=sld WE
def uZ:PT (List DV):=pA [pV true [(dI .i64),(dI .i64),(dI .i64),(dI .i64),(dI .i64),(dI .i64),dL,(dI .i64),(dI .i64)]]
def UW (v:WQ)(α:Type)(k:RT α):Int->Int->Int->Int->Int->Int->ae->Int->Int->Op α:=fun a b c d e g h i j=>v α a b c d e g h i j (fun l m=>ia k l m)
def akD:ah:=(ah.put (.m [⟨Fl,Qu yb⟩]) [1,1,1,1,1,1,0,1,0] (ah.put (.m [⟨xk,Fm ph⟩]) [1,1,1,1,1,1,0,1,0,0,1,1,0,0,1,0] (emb Vh)))
theorem ajj:al Pg 70 107 ⟨uZ,UW A2⟩:=iZ ek3 (ag Tryz.func70 (by kernel_rfl)) Sj akD ((aA _ _).trans ((aA _ _).trans (aG _))) (bK (td:=qJ) (by kernel_rfl) (bc (by kernel_rfl) (aK Vh) ⟨acM,TT⟩) ⟨acs,TT⟩) fun _ _=>by kernel_rfl
def aaA:SG:=[(20,iS 9),(21,iS 9),(22,iS 9)]
def auu:TG:=[tT 0 [0],tT 1 [0,7],tT 2 [2,3],tT 3 [0,11],tT 4 [2,3],tT 5 [15,16,17],tT 6 [15,16,17,18],tT 7 [4,5,15,16,17],tT 8 [4,6,15,16,17],tT 9 [4,6,15,16,17,25],tT 10 [2,3],tT 11 [15,16,17],tT 12 [2,3]]
def aux:TG:=[(6,⟨[15,16,17],true,[⟨false,15,0,20015,9⟩],[]⟩)]
def adG:au:=aB Pg Tryz.f69 auu aux
def rp:OT:=tdC (ah.sub [1,1,0,1,0] (emb adG))
def Ec:PT St:=pS [sY 15 dL,sI 16,sI 17] []
def Ea {β:Type}(g:St->β):ae->Int->Int->β:=Ec.unc g
def afd:PT St:=pS [sY 15 dL,sI 16,sI 17,sY 18 dB] []
def wO {β:Type}(g:St->β):ae->Int->Int->Bool->β:=afd.unc g
def tQ:ah:=ah.sub [1,1,0,1,0,0] (emb adG)
def qT (α:Type)(d:ae)(b a:Int)(kn:Int->Op α)(k1:Int->Int->Op α)(k2:Int->Bool->Op α):Op α:=
 cK (decide (a < b))
 (gI d a [.int .i64,.int .i64,.int .i64,.int .i64,.int .i64,.int .i64,.int .i64,.int .i64,.int .i64]
 (fun e g h i j l m o p=>yE α e g h i j l m o p
 (fun c=>cK (c != 0)
 (k1 a c)
 (kn (w64 (a+1))))))
 (k2 a (decide (a < b)))
def oF (α:Type)(a:ae)(b:Int)(k1:Int->Int->Op α)(k2:Int->Bool->Op α):Nat->Int->Op α
 | 0,_=>none
 | n+1,c=>qT α a b c (oF α a b k1 k2 n) k1 k2
def Iq (α:Type)(a:ae)(b:Int)(k1:Int->Int->Op α)(k2:Int->Bool->Op α)(c:Int):Op α:=oF α a b k1 k2 aN c
def wZ:rl:=sld Iq
def Kl (v:rl)(α:Type)(K:KT α):ae->Int->Int->Op α:=fun c d e=>v α c d (fun a b=>dQ (K .ret) a b) (fun a b=>wO (K (.exit 1)) c d a b) e
theorem afX (α:Type)(K:KT α)(Kn:SK α)(a:ae)(b c:Int):Ea (fun σ=>aF Pg Ek3 aaA tQ (cX (fun σ=>bW rp σ Kn) K) σ) a b c=qT α a b c (fun c=>Ea Kn a b c) (fun d e=>dQ (K .ret) d e) (fun d e=>wO (K (.exit 1)) a b d e):=by kernel_rfl
theorem adt (α:Type)(K:KT α):∀ (n:Nat) (a:ae) (b c:Int),oF α a b (fun d e=>dQ (K .ret) d e) (fun d e=>wO (K (.exit 1)) a b d e) n c=Ea (aS (aF Pg Ek3 aaA tQ) rp K n) a b c:=by
 intro n
 induction n with
 | zero=>intros;rfl
 | succ n ih=>intro a b c;exact (congrArg (fun kn=>qT α a b c kn (fun d e=>dQ (K .ret) d e) (fun d e=>wO (K (.exit 1)) a b d e)) (funext fun c=>ih a b c)).trans (afX α K (aS (aF Pg Ek3 aaA tQ) rp K n) a b c).symm
theorem adz:∀ (α:Type) (K:KT α),Kl wZ α K=Ec.unc fun σ=>aS (aF Pg Ek3 aaA tQ) rp K aN σ:=bR (fun α K=>funext fun a=>funext fun b=>funext fun c=>adt α K aN a b c)
abbrev FE:Type 1:=(α:Type)->ae->(Int->Int->Op α)->Op α
def JW (α:Type)(a:ae)(k1:Int->Int->Op α):Op α:=
 cK (((List.length a:Nat):Int) == 0)
 (k1 0 12)
 (cK (decide (8 < ((List.length a:Nat):Int)))
 (k1 0 8)
 (wZ α a ((List.length a:Nat):Int)
 (fun b c=>k1 b c)
 (fun d e=>k1 0 0) 0))
def CT:FE:=sld JW
def X2 (v:FE)(α:Type)(k:RT α):ae->Op α:=fun a=>v α a (fun b c=>ia k b c)
def ai7:ah:=(ah.put (.m [⟨Ec,Kl wZ⟩]) [1,1,0,1,0] (emb adG))
theorem alL:al Pg 69 29 ⟨oc,X2 CT⟩:=iZ ek3 (ag Tryz.func69 (by kernel_rfl)) aaA ai7 ((aA _ _).trans (aG _)) (bK (td:=rp) (by kernel_rfl) (aK adG) ⟨adz,TT⟩) fun _ _=>by kernel_rfl
def YR:SG:=[(19,iS 5),(20,iS 5),(28,iT),(33,iT)]
def atz:TG:=[tT 0 [0,3],tT 1 [0,3,10],tT 2 [4,5],tT 3 [0,3,6],tT 4 [0,3,6,14],tT 6 [0,3,6,7],tT 7 [0,3,6,7,23],tT 8 [4,5],tT 5 [0,3,6],tT 9 [36],tT 10 [4,5],tT 11 [4,5]]
def asq:TG:=[tT 4 [0,3,6]]
def agd:au:=aB Pg Tryz.f91 atz asq
def rq:OT:=tdC (ah.sub [1,1,0,1,0] (emb agd))
def DX:PT St:=pS [sY 0 dL,sP 3,sI 6] [az 3 [xI,xI]]
def Ew {β:Type}(g:St->β):ae->Int->Int->Int->β:=DX.unc g
def adH:PT St:=pS [sI 4,sI 5] []
def xu {β:Type}(g:St->β):Int->Int->β:=adH.unc g
def aeP:PT St:=pS [sY 0 dL,sP 3,sI 6,sY 14 dB] [az 3 [xI,xI]]
def ya {β:Type}(g:St->β):ae->Int->Bool->Int->Int->β:=aeP.unc g
def tH:ah:=ah.sub [1,1,0,1,0,0] (emb agd)
def wT (α:Type)(b:ae)(a:Int)(kn:Int->Op α)(k1:Int->Int->Op α)(k2:Int->Bool->Op α):Op α:=
 cK (decide (a < ((List.length b:Nat):Int)))
 (gI b a [.int .i64,.int .i64,.int .i64,.int .i64,.int .i64]
 (fun d e g h i=>Cx α d e g h i
 (fun c=>cK (c != 0)
 (k1 (w64 (a+1)) c)
 (kn (w64 (a+1))))))
 (k2 a (decide (a < ((List.length b:Nat):Int))))
def xr (α:Type)(a:ae)(k1:Int->Int->Op α)(k2:Int->Bool->Op α):Nat->Int->Op α
 | 0,_=>none
 | n+1,b=>wT α a b (xr α a k1 k2 n) k1 k2
def F7 (α:Type)(a:ae)(k1:Int->Int->Op α)(k2:Int->Bool->Op α)(b:Int):Op α:=xr α a k1 k2 aN b
abbrev lj:Type 1:=(α:Type)->ae->(Int->Int->Op α)->(Int->Bool->Op α)->Int->Op α
def xy:lj:=sld F7
def M9 (v:lj)(α:Type)(K:KT α):ae->Int->Int->Int->Op α:=fun c d e g=>v α c (fun a b=>xu (K .ret) a b) (fun a b=>ya (K (.exit 0)) c a b e g) d
theorem adw (α:Type)(K:KT α)(Kn:SK α)(a:ae)(b c d:Int):Ew (fun σ=>aF Pg Ek3 YR tH (cX (fun σ=>bW rq σ Kn) K) σ) a b c d=wT α a b (fun b=>Ew Kn a b c d) (fun e g=>xu (K .ret) e g) (fun e g=>ya (K (.exit 0)) a e g c d):=by kernel_rfl
theorem abS (α:Type)(K:KT α):∀ (n:Nat) (a:ae) (b e g:Int),xr α a (fun c d=>xu (K .ret) c d) (fun c d=>ya (K (.exit 0)) a c d e g) n b=Ew (aS (aF Pg Ek3 YR tH) rq K n) a b e g:=by
 intro n
 induction n with
 | zero=>intros;rfl
 | succ n ih=>intro a b e g;exact (congrArg (fun kn=>wT α a b kn (fun c d=>xu (K .ret) c d) (fun c d=>ya (K (.exit 0)) a c d e g)) (funext fun b=>ih a b e g)).trans (adw α K (aS (aF Pg Ek3 YR tH) rq K n) a b e g).symm
theorem abb:∀ (α:Type) (K:KT α),M9 xy α K=DX.unc fun σ=>aS (aF Pg Ek3 YR tH) rq K aN σ:=bR (fun α K=>funext fun a=>funext fun b=>funext fun c=>funext fun d=>abS α K aN a b c d)
abbrev SY:Type 1:=(α:Type)->ae->Int->Int->(Int->Int->Op α)->Op α
def ZS (α:Type)(a:ae)(b c:Int)(k1:Int->Int->Op α):Op α:=
 cK (decide (40 < ((List.length a:Nat):Int)))
 (k1 0 8)
 (xy α a
 (fun d e=>k1 d e)
 (fun i j=>yq α b
 (fun g=>cK (!g)
 (k1 0 2)
 (CS α c
 (fun h=>cK (!h)
 (k1 0 2)
 (k1 0 0))))) 0)
def Ht:SY:=sld ZS
def ZM:PT (List DV):=pA [pV false [dL],pV true [(dI .i64),(dI .i64)]]
def aaB (v:SY)(α:Type)(k:RT α):ae->Int->Int->Op α:=fun a b c=>v α a b c (fun d e=>ia k d e)
def ai4:ah:=(ah.put (.m [⟨DX,M9 xy⟩]) [1,1,0,1,0] (emb agd))
theorem akK:al Pg 91 37 ⟨ZM,aaB Ht⟩:=iZ ek3 (ag Tryz.func91 (by kernel_rfl)) YR ai4 ((aA _ _).trans (aG _)) (bK (td:=rq) (by kernel_rfl) (aK agd) ⟨abb,TT⟩) fun _ _=>by kernel_rfl
def TL:SG:=[(20,iS 9),(21,iS 9)]
def atJ:TG:=[tT 0 [0],tT 1 [0,8],tT 2 [2,3],tT 3 [0,11],tT 4 [2,3],tT 5 [0,4],tT 6 [0,4,15],tT 8 [0,4,5],tT 9 [0,4,5,24],tT 10 [2,3],tT 7 [0,4],tT 11 [2,3]]
def aug:TG:=[tT 6 [0,4]]
def aeH:au:=aB Pg Tryz.f90 atJ aug
def t8:OT:=tdC (ah.sub [1,1,1,0,1,0] (emb aeH))
def Fj:PT St:=pS [sY 0 dL,sI 4] []
def F3 {β:Type}(g:St->β):ae->Int->β:=Fj.unc g
def aeA:PT St:=pS [sY 0 dL,sI 4,sY 15 dB] []
def xx {β:Type}(g:St->β):ae->Int->Bool->β:=aeA.unc g
def tX:ah:=ah.sub [1,1,1,0,1,0,0] (emb aeH)
def tN (α:Type)(b:ae)(a:Int)(kn:Int->Op α)(k1:Int->Int->Op α)(k2:Int->Bool->Op α):Op α:=
 cK (decide (a < ((List.length b:Nat):Int)))
 (gI b a [.int .i64,.int .i64,.int .i64,.int .i64,.int .i64,.int .i64,.int .i64,.int .i64,.int .i64]
 (fun d e g h i j l m o=>AD α d e g h i j l m o
 (fun c=>cK (c != 0)
 (k1 a c)
 (kn (w64 (a+1))))))
 (k2 a (decide (a < ((List.length b:Nat):Int))))
def oN (α:Type)(a:ae)(k1:Int->Int->Op α)(k2:Int->Bool->Op α):Nat->Int->Op α
 | 0,_=>none
 | n+1,b=>tN α a b (oN α a k1 k2 n) k1 k2
def HI (α:Type)(a:ae)(k1:Int->Int->Op α)(k2:Int->Bool->Op α)(b:Int):Op α:=oN α a k1 k2 aN b
def xj:lj:=sld HI
def L8 (v:lj)(α:Type)(K:KT α):ae->Int->Op α:=fun c d=>v α c (fun a b=>dQ (K .ret) a b) (fun a b=>xx (K (.exit 0)) c a b) d
theorem adA (α:Type)(K:KT α)(Kn:SK α)(a:ae)(b:Int):F3 (fun σ=>aF Pg Ek3 TL tX (cX (fun σ=>bW t8 σ Kn) K) σ) a b=tN α a b (fun b=>F3 Kn a b) (fun c d=>dQ (K .ret) c d) (fun c d=>xx (K (.exit 0)) a c d):=by kernel_rfl
theorem acg (α:Type)(K:KT α):∀ (n:Nat) (a:ae) (b:Int),oN α a (fun c d=>dQ (K .ret) c d) (fun c d=>xx (K (.exit 0)) a c d) n b=F3 (aS (aF Pg Ek3 TL tX) t8 K n) a b:=by
 intro n
 induction n with
 | zero=>intros;rfl
 | succ n ih=>intro a b;exact (congrArg (fun kn=>tN α a b kn (fun c d=>dQ (K .ret) c d) (fun c d=>xx (K (.exit 0)) a c d)) (funext fun b=>ih a b)).trans (adA α K (aS (aF Pg Ek3 TL tX) t8 K n) a b).symm
theorem abv:∀ (α:Type) (K:KT α),L8 xj α K=Fj.unc fun σ=>aS (aF Pg Ek3 TL tX) t8 K aN σ:=bR (fun α K=>funext fun a=>funext fun b=>acg α K aN a b)
def YS (α:Type)(a:ae)(k1:Int->Int->Op α):Op α:=
 cK (((List.length a:Nat):Int) == 0)
 (k1 0 12)
 (cK (decide (8 < ((List.length a:Nat):Int)))
 (k1 0 8)
 (xj α a
 (fun b c=>k1 b c)
 (fun d e=>k1 0 0) 0))
def G2:FE:=sld YS
def Yx (v:FE)(α:Type)(k:RT α):ae->Op α:=fun a=>v α a (fun b c=>ia k b c)
def aiQ:ah:=(ah.put (.m [⟨Fj,L8 xj⟩]) [1,1,1,0,1,0] (emb aeH))
theorem ajN:al Pg 90 27 ⟨oc,Yx G2⟩:=iZ ek3 (ag Tryz.func90 (by kernel_rfl)) TL aiQ ((aA _ _).trans (aG _)) (bK (td:=t8) (by kernel_rfl) (aK aeH) ⟨abv,TT⟩) fun _ _=>by kernel_rfl
def asl:SG:=[(4,iS 2),(7,iT),(11,iS 2),(14,iT)]
def atn:TG:=[tT 0 [1,2],tT 1 [2]]
def asQ:au:=aB Pg Tryz.f87 atn aR
noncomputable abbrev Lk4:List bC:=⟨147,6,[⟨bD,Le lQ⟩]⟩::⟨220,42,[⟨bj,KQ ik⟩]⟩::⟨143,63,[⟨fR,Og lC⟩]⟩::⟨176,39,[⟨fR,MG Bj⟩]⟩::⟨145,37,[⟨Kt,P8 Ai⟩]⟩::⟨179,32,[⟨dr,P6 z0⟩]⟩::⟨136,40,[⟨bD,PB lT⟩]⟩::⟨70,107,[⟨uZ,UW A2⟩]⟩::⟨69,29,[⟨oc,X2 CT⟩]⟩::⟨90,27,[⟨oc,Yx G2⟩]⟩::⟨91,37,[⟨ZM,aaB Ht⟩]⟩::⟨165,32,[⟨bD,Lz qq⟩]⟩::Lk3
theorem ak4:bF Lk4 fun c=>bF c.l (al Pg c.f c.nt):=⟨⟨agw,TT⟩,⟨afp,TT⟩,⟨acU,TT⟩,⟨acT,TT⟩,⟨aek,TT⟩,⟨aeN,TT⟩,⟨ado,TT⟩,⟨ajj,TT⟩,⟨alL,TT⟩,⟨ajN,TT⟩,⟨akK,TT⟩,⟨abi,TT⟩,ak3⟩
def Ek4:aE:=aE.ofIO Lk4 bG io0
theorem ek4:Ek4.Ok Pg:=aE.ofIO_ok aP ak4
def Vc (α:Type)(b c a:Int)(k1:Int->Int->Op α):Op α:=
 mr α b c
 (fun d=>lQ α b c
 (fun e=>k1 (if (w64 (d - a)) > 0 then (w64 (d - a)) else 0) (w64 (e+a))))
def NU:jV:=sld Vc
def T4 (v:jV)(α:Type)(k:RT α):Int->Int->Int->Op α:=fun a b c=>v α a b c (fun d e=>cN k d e)
theorem aiK:al Pg 87 17 ⟨oC,T4 NU⟩:=iP ek4 asQ (ag Tryz.func87 (by kernel_rfl)) asl fun _ _=>by kernel_rfl
def VK:SG:=[(30,iT),(32,iT)]
def aqH:TG:=[tT 0 [0,2],tT 1 [0,2],tT 2 [0,2,9],tT 3 [2],tT 4 [0,2,16],tT 5 [2],tT 6 [0,2,23],tT 7 [2,3],tT 8 [2],tT 9 [2]]
def ZD:au:=aB Pg Tryz.f214 aqH aR
def Kz (α:Type)(a:Int)(k1:Int->Int->Op α):Op α:=
 jc α a 4194304
 (fun b=>cK (decide (2097152<=(w64 (a - (w64 (4194304*b))))))
 (none)
 (cK (decide (1048576<=(w64 (a - (w64 (4194304*b))))))
 (none)
 (cK (decide (524288 < (w64 (a - (w64 (4194304*b))))))
 (ik α (w64 (1048576 - (w64 (a - (w64 (4194304*b))))))
 (fun c d=>k1 d c))
 (ik α (w64 (a - (w64 (4194304*b))))
 (fun e g=>k1 e g)))))
def vm:jB:=sld Kz
def NV (v:jB)(α:Type)(k:RT α):Int->Op α:=fun a=>v α a (fun b c=>cN k b c)
theorem ae6:al Pg 214 36 ⟨bj,NV vm⟩:=iP ek4 ZD (ag Tryz.func214 (by kernel_rfl)) VK fun _ _=>by kernel_rfl
noncomputable abbrev Lk5:List bC:=⟨214,36,[⟨bj,NV vm⟩]⟩::⟨87,17,[⟨oC,T4 NU⟩]⟩::Lk4
theorem ak5:bF Lk5 fun c=>bF c.l (al Pg c.f c.nt):=⟨⟨ae6,TT⟩,⟨aiK,TT⟩,ak4⟩
def Ek5:aE:=aE.ofIO Lk5 bG io0
theorem ek5:Ek5.Ok Pg:=aE.ofIO_ok aP ak5
def FD (α:Type)(a:Int)(k1:Int->Int->Op α):Op α:=
 jc α a 4194304
 (fun b=>cK (decide (2097152<=(w64 (a - (w64 (4194304*b))))))
 (vm α (w64 ((w64 (a - (w64 (4194304*b)))) - 2097152))
 (fun c d=>jt α c d 2
 (fun e g=>k1 e g)))
 (cK (decide (1048576<=(w64 (a - (w64 (4194304*b))))))
 (vm α (w64 ((w64 (a - (w64 (4194304*b)))) - 1048576))
 (fun h i=>jt α h i 1
 (fun j l=>k1 j l)))
 (cK (decide (524288 < (w64 (a - (w64 (4194304*b))))))
 (ik α (w64 (1048576 - (w64 (a - (w64 (4194304*b))))))
 (fun m o=>k1 o m))
 (ik α (w64 (a - (w64 (4194304*b))))
 (fun p q=>k1 p q)))))
def qc:jB:=sld FD
def Qz (v:jB)(α:Type)(k:RT α):Int->Op α:=fun a=>v α a (fun b c=>cN k b c)
theorem acJ:al Pg 214 36 ⟨bj,Qz qc⟩:=iP ek5 ZD (ag Tryz.func214 (by kernel_rfl)) VK fun _ _=>by kernel_rfl
def akr:aE:=aE.ofIO (⟨214,36,[⟨bj,Qz qc⟩]⟩::Lk5) bG io0
theorem acI:akr.Ok Pg:=aE.ofIO_ok aP ⟨⟨acJ,TT⟩,ak5⟩
def MX (α:Type)(a:Int)(k1:Int->Int->Op α):Op α:=
 jc α a 4194304
 (fun b=>cK (decide (2097152<=(w64 (a - (w64 (4194304*b))))))
 (qc α (w64 ((w64 (a - (w64 (4194304*b)))) - 2097152))
 (fun c d=>jt α c d 2
 (fun e g=>k1 e g)))
 (cK (decide (1048576<=(w64 (a - (w64 (4194304*b))))))
 (qc α (w64 ((w64 (a - (w64 (4194304*b)))) - 1048576))
 (fun h i=>jt α h i 1
 (fun j l=>k1 j l)))
 (cK (decide (524288 < (w64 (a - (w64 (4194304*b))))))
 (ik α (w64 (1048576 - (w64 (a - (w64 (4194304*b))))))
 (fun m o=>k1 o m))
 (ik α (w64 (a - (w64 (4194304*b))))
 (fun p q=>k1 p q)))))
def ym:jB:=sld MX
def Pv (v:jB)(α:Type)(k:RT α):Int->Op α:=fun a=>v α a (fun b c=>cN k b c)
theorem ac5:al Pg 214 36 ⟨bj,Pv ym⟩:=iP acI ZD (ag Tryz.func214 (by kernel_rfl)) VK fun _ _=>by kernel_rfl
def apb:SG:=[(14,iS 2),(18,iT),(20,iS 3),(22,iS 2),(24,iS 2),(29,iT),(31,iS 2),(38,iT),(40,iS 2),(46,iT),(48,iS 2),(52,iS 2),(55,iT),(60,iT)]
def amm:TG:=[tT 0 [2,3,4],tT 1 [2,3,4,6],tT 2 [2,3,4,6,19],tT 3 [4,5],tT 4 [2,3,4,6,7],tT 5 [2,3,4,6,7,8,9],tT 6 [2,3,4,6,8,9,10,11],tT 7 [4,8,9,10,11,12],tT 8 [4,5]]
def aoM:au:=aB Pg Tryz.f173 amm aR
abbrev xc:Type 1:=(α:Type)->Int->Int->Int->Int->Int->Int->(I4 (Op α))->Op α
def MI (α:Type)(c d h a b e:Int)(k1:I4 (Op α)):Op α:=
 mr α a b
 (fun g=>cK (decide (g<=e))
 (k1 c d h 9)
 (EB α b
 (fun m=>uO α c d a m
 (fun o p=>ja α a b
 (fun q=>lC α o 1048576 q
 (fun i r=>ja α a b
 (fun s=>lC α p 1048576 s
 (fun j t=>lQ α a b
 (fun w=>lQ α c d
 (fun z=>Bj α (w64 ((w64 (h*w))+(w64 (z*e)))) 1048576 (w64 ((w64 (g - e))*g))
 (fun l=>cK r
 (jw α true
 (fun A=>k1 i j (w64 (l+A)) 0))
 (jw α t
 (fun B=>k1 i j (w64 (l+B)) 0)))))))))))))
def FI:xc:=sld MI
def QJ (v:xc)(α:Type)(k:RT α):I6 (Op α):=fun a b c d e g=>v α a b c d e g (fun h i j l=>ei k h i j l)
theorem afL:al Pg 173 76 ⟨jN,QJ FI⟩:=iP ek5 aoM (ag Tryz.func173 (by kernel_rfl)) apb fun _ _=>by kernel_rfl
def Zd:SG:=[(10,iS 2),(15,iT),(17,iS 3),(21,iT),(26,iT),(28,iT),(33,iT),(36,iS 3),(40,iT),(48,iT),(59,iT),(64,iT),(76,iT),(81,iS 2),(83,iT)]
def anY:TG:=[tT 0 [1,2],tT 1 [1,2,4],tT 2 [1,2,4,12],tT 3 [2,3],tT 4 [1,2,4,18],tT 5 [2,3],tT 6 [1,2,4,5],tT 7 [1,2,4,5,6],tT 8 [1,2,4,5,8],tT 9 [1,2,4,5,8,60],tT 10 [1,2,4,5,6,8],tT 11 [1,2,4,5,8],tT 12 [1,2,4,5,8,77],tT 13 [1,2,4,5,8],tT 14 [2,3]]
def Mo:au:=aB Pg Tryz.f138 anY aR
def zn:PT St:=pS [sP 1,sP 2,sI 4,sY 12 dB] [az 1 (xs 3),az 2 (xs 3)]
def an3 {β:Type}(g:St->β):Int->Bool->I6 β:=zn.unc g
def YY:PT St:=pS [sP 1,sP 2,sI 4,sY 18 dB] [az 1 (xs 3),az 2 (xs 3)]
def Ya {β:Type}(g:St->β):Int->Bool->I6 β:=YY.unc g
def zH:PT St:=pS [sP 1,sP 2,sI 4,sI 5,sP 8] [az 1 (xs 3),az 2 (xs 3),az 8 [xI,xI]]
def Y1 {β:Type}(g:St->β):I10 β:=zH.unc g
def XR:PT St:=pS [sP 1,sP 2,sI 4,sI 5,sP 8,sY 77 dB] [az 1 (xs 3),az 2 (xs 3),az 8 [xI,xI]]
def XE {β:Type}(g:St->β):Int->Int->Bool->I8 β:=XR.unc g
def T9:PT St:=pS [sP 1,sP 2,sI 4,sI 5,sP 8,sY 60 dB] [az 1 (xs 3),az 2 (xs 3),az 8 [xI,xI]]
def YU {β:Type}(g:St->β):Int->Int->Bool->I8 β:=T9.unc g
def Rd:ah:=ah.sub [1,1,1,1,1,1,0] (emb Mo)
abbrev B7:Type 1:=(α:Type)->Int->Int->Int->(Int->Int->Op α)->(Bool->Int->Op α)->(Bool->Op α)->Op α
def Dn (α:Type)(b c a:Int)(k1:Int->Int->Op α)(k2:Bool->Int->Op α)(k3:Bool->Op α):Op α:=
 cK (decide (c < 0))
 (nw α a
 (fun e=>lC α e 1048576 (w64 (2*b))
 (fun d g=>cK (decide (a < 0))
 (k1 d (w64 (0 - b)))
 (k2 (decide (a < 0)) d))))
 (k3 (decide (c < 0)))
def mf:B7:=sld Dn
def GX (v:B7)(α:Type)(K:KT α):I10 (Op α):=fun e a c d g h i j m o=>v α a c d (fun b l=>Y1 (K .normal) e a c d g h i j b l) (fun b l=>XE (K .normal) e a b c d g h i j l a) (fun b=>YU (K .normal) e a b c d g h i j m o)
theorem Yk:∀ (α:Type) (K:KT α),GX mf α K=zH.unc fun σ=>aF Pg Ek5 Zd Rd K σ:=bR (fun α K=>by kernel_rfl)
def Se:ah:=ah.sub [1,1,0,0,1,1,0] (emb Mo)
def De (α:Type)(b c a:Int)(k1:Bool->Op α):Op α:=
 cK (decide (b < 0))
 (iV α c a
 (fun d=>cK d
 (k1 (a != 0))
 (k1 false)))
 (k1 false)
def r6:dp:=sld De
def IA (v:dp)(α:Type)(K:KT α):Int->Bool->I6 (Op α):=fun d j a b c e g h=>v α a b c (fun i=>Ya (K .normal) d i a b c e g h)
theorem W6:∀ (α:Type) (K:KT α),IA r6 α K=zn.unc fun σ=>aF Pg Ek5 Zd Se K σ:=bR (fun α K=>by kernel_rfl)
abbrev L2:Type 1:=(α:Type)->Int->Int->Int->(I4 (Op α))->Op α
def Fo (α:Type)(c d a:Int)(k1:I4 (Op α)):Op α:=
 mr α c d
 (fun e=>cK (decide (e<=a))
 (k1 c d a 9)
 (r6 α c d a
 (fun g=>cK g
 (k1 c d a 14)
 (nw α c
 (fun h=>eF α (w64 ((w64 (e+h))*524288))
 (fun b=>lC α d 1048576 (w64 (2*b))
 (fun i B=>mf α b c d
 (fun j l=>eF α (w64 (e*1048576))
 (fun m=>dK α (w64 (a*1048576)) m
 (fun o=>dK α 1048576 b
 (fun p=>k1 j l (w64 ((w64 (o+3))+p)) 0))))
 (fun C q=>eF α (w64 (e*1048576))
 (fun r=>dK α (w64 (a*1048576)) r
 (fun s=>dK α 1048576 b
 (fun t=>k1 q b (w64 ((w64 (s+3))+t)) 0))))
 (fun D=>eF α (w64 (e*1048576))
 (fun w=>dK α (w64 (a*1048576)) w
 (fun z=>dK α 1048576 b
 (fun A=>k1 b i (w64 ((w64 (z+3))+A)) 0)))))))))))
def qe:L2:=sld Fo
def Pn (v:L2)(α:Type)(k:RT α):Int->Int->Int->Op α:=fun a b c=>v α a b c (fun d e g h=>ei k d e g h)
def agQ:ah:=(ah.put (.m [⟨zn,IA r6⟩]) [1,1,0,0,1,1] (ah.put (.m [⟨zH,GX mf⟩]) [1,1,1,1,1,1] (emb Mo)))
theorem ac7:al Pg 138 94 ⟨oC,Pn qe⟩:=iZ ek5 (ag Tryz.func138 (by kernel_rfl)) Zd agQ ((aA _ _).trans ((aA _ _).trans (aG _))) (bc (by kernel_rfl) (bc (by kernel_rfl) (aK Mo) ⟨Yk,TT⟩) ⟨W6,TT⟩) fun _ _=>by kernel_rfl
def aq1:SG:=[(12,iS 2),(14,iS 2),(18,iT),(24,iT),(32,iS 2),(35,iT),(38,iS 2),(41,iT),(45,iT),(47,iT)]
def aqy:TG:=[tT 0 [2,3,4],tT 1 [2,3,4,6],tT 2 [2,3,4,6,7,8],tT 3 [2,3,4,7,8,9,10],tT 4 [4,5]]
def aoW:au:=aB Pg Tryz.f169 aqy aR
def LI (α:Type)(a b c d e g:Int)(k1:Int->Int->Int->Op α):Op α:=
 uO α a b d e
 (fun l m=>lS α l 1048576
 (fun h o=>lS α m 1048576
 (fun i p=>lQ α a b
 (fun q=>lQ α d e
 (fun r=>dK α (w64 ((w64 ((w64 (q*g))+(w64 (r*c))))+(w64 (c*g)))) 1048576
 (fun j=>cK o
 (jw α true
 (fun s=>k1 h i (w64 (j+s))))
 (jw α p
 (fun t=>k1 h i (w64 (j+t))))))))))
def Fd:fQ:=sld LI
def Lw (v:fQ)(α:Type)(k:RT α):I6 (Op α):=fun a b c d e g=>v α a b c d e g (fun h i j=>ei k h i j 0)
theorem adN:al Pg 169 58 ⟨jN,Lw Fd⟩:=iP ek5 aoW (ag Tryz.func169 (by kernel_rfl)) aq1 fun _ _=>by kernel_rfl
def anG:SG:=[(8,[.cpx .f64]),(16,iT),(20,iS 2),(22,iT)]
def atM:TG:=[tT 0 [1,2],tT 1 [1,2,4,5],tT 2 [1,2,4,5,19],tT 3 [1,2,4,5],tT 4 [2,3]]
def akm:au:=aB Pg Tryz.f86 atM aR
def FM:PT St:=pS [sP 1,sP 2,sP 4,sI 5] [az 1 [(cD (dX .f64)),xI],az 2 (xs 3),az 4 [xI,xI]]
def acv {β:Type}(g:St->β):Int->Nat->Nat->I6 β:=FM.unc g
def acm:PT St:=pS [sP 1,sP 2,sP 4,sI 5,sY 19 dB] [az 1 [(cD (dX .f64)),xI],az 2 (xs 3),az 4 [xI,xI]]
def agK {β:Type}(g:St->β):Int->Bool->Nat->Nat->I6 β:=acm.unc g
def aeC:ah:=ah.sub [1,1,0] (emb akm)
abbrev rG:Type 1:=(α:Type)->Int->Int->(Op α)->(Bool->Op α)->Op α
def HH (α:Type)(b c:Int)(k1:Op α)(k2:Bool->Op α):Op α:=
 cK (b == 0)
 (kq α c 0 67108864
 (fun a=>cK (!a)
 (k1)
 (k2 (!a))))
 (k2 false)
def xS:rG:=sld HH
def Ou (v:rG)(α:Type)(K:KT α):Int->Nat->Nat->I6 (Op α):=fun b c d a e g h i j=>v α b a (acv (K .normal) 2 c d a e g h i j) (fun l=>agK (K .normal) b l c d a e g h i j)
theorem adS:∀ (α:Type) (K:KT α),Ou xS α K=FM.unc fun σ=>aF Pg Ek5 anG aeC K σ:=bR (fun α K=>by kernel_rfl)
abbrev FR:Type 1:=(α:Type)->Nat->Nat->Int->(Int->Int->Int->Op α)->Op α
def Vw (α:Type)(d e:Nat)(g:Int)(k1:Int->Int->Int->Op α):Op α:=
 Ai α d e 4724276009111650304
 (fun a b c=>xS α c g
 (k1 a b 2)
 (fun h=>k1 a b c))
def gY:FR:=sld Vw
def nN:PT (List DV):=pA [pV true [(dX .f64),(dI .i64)]]
def Uz (v:FR)(α:Type)(k:RT α):Nat->Nat->Int->Op α:=fun b c a=>v α b c a (fun d e g=>ei k d e a g)
def ajn:ah:=(ah.put (.m [⟨FM,Ou xS⟩]) [1,1] (emb akm))
theorem alw:al Pg 86 25 ⟨nN,Uz gY⟩:=iZ ek5 (ag Tryz.func86 (by kernel_rfl)) anG ajn ((aA _ _).trans (aG _)) (bc (by kernel_rfl) (aK akm) ⟨adS,TT⟩) fun _ _=>by kernel_rfl
def ahC:SG:=[(10,iT)]
def anL:TG:=[tT 0 [0,1,2,6],tT 1 [0,1,2,6,11],tT 2 [0,6],tT 3 [0,6]]
def anq:au:=aB Pg Tryz.f134 anL aR
def Oi (α:Type)(a b c:Int)(k1:Nat->Nat->Int->Int->Op α):Op α:=
 cK (a != 0)
 (k1 0 0 0 a)
 (z0 α b c
 (fun d e g h=>fE α
 (k1 d e g h)))
def uU:oh:=sld Oi
def oT:PT (List DV):=pA [pV false [(dMr [(dI .i64),(dI .i64),(dI .i64),(dI .i64),(dI .i64),(dI .i64),(dI .i64),dL,(dI .i64),(dI .i64)] 0)],vI,vI]
def N4 (v:oh)(α:Type)(k:RT α):Int->Int->Int->Int->Int->Int->Int->ae->I4 (Op α):=fun a b c d e g h i j l m o=>v α a m o (fun p q r s=>dj k p q r s b c d e g h i j l)
theorem adQ:al Pg 134 20 ⟨oT,N4 uU⟩:=iP ek5 anq (ag Tryz.func134 (by kernel_rfl)) ahC fun _ _=>by kernel_rfl
def asn:TG:=[tT 0 [0,1,2,6],tT 1 [0,1,2,6,11],tT 2 [0,6],tT 3 [0,6]]
def arI:au:=aB Pg Tryz.f81 asn aR
def aaw (α:Type)(a b c:Int)(k1:Nat->Nat->Int->Int->Op α):Op α:=
 cK (a != 0)
 (k1 0 0 0 a)
 (lT α b c
 (fun d e g h=>fE α
 (k1 d e g h)))
def vE:oh:=sld aaw
def Ze (v:oh)(α:Type)(k:RT α):Int->Int->Int->Int->Int->Int->Int->ae->I4 (Op α):=fun a b c d e g h i j l m o=>v α a m o (fun p q r s=>dj k p q r s b c d e g h i j l)
theorem alD:al Pg 81 21 ⟨oT,Ze vE⟩:=iP ek5 arI (ag Tryz.func81 (by kernel_rfl)) ahC fun _ _=>by kernel_rfl
def asi:SG:=[(7,[.int .i64,.int .i64,.int .i64,.int .i64,.int .i64,.int .i64,.sl,.int .i64,.int .i64]),(11,[.int .i64,.int .i64,.int .i64,.int .i64,.int .i64,.int .i64,.sl,.int .i64,.int .i64])]
def arE:TG:=[tT 0 [1],tT 1 [1,5],tT 2 [2,3]]
def asa:au:=aB Pg Tryz.f31 arE aR
def U4:PT (List RV):=pRs [pR false [rJ [(dI .i64),(dI .i64),(dI .i64),(dI .i64),(dI .i64),(dI .i64),(dI .i64),dL,(dI .i64),(dI .i64)] 0],wI]
def VT {β:Type}(g:List RV->β):Int->Int->Int->Int->Int->Int->Int->ae->Int->Int->Int->β:=U4.unc g
abbrev YB:Type 1:=(α:Type)->Int->Int->Int->Int->Int->Int->ae->Int->Int->(Int->Op α)->Op α
def Xb (α:Type)(a b c d e g:Int)(h:ae)(i j:Int)(k1:Int->Op α):Op α:=
 A2 α a b c d e g h i j
 (fun m l=>k1 l)
def Pu:YB:=sld Xb
def aat (v:YB)(α:Type)(k:RT α):Int->Int->Int->Int->Int->Int->ae->Int->Int->Op α:=fun a b c d e g h i j=>v α a b c d e g h i j (fun l=>VT k 0 a b c d e g h i j l)
theorem al7:al Pg 31 15 ⟨uZ,aat Pu⟩:=iP ek5 asa (ag Tryz.func31 (by kernel_rfl)) asi fun _ _=>by kernel_rfl
def at6:SG:=[(10,[.sl]),(19,[.sl,.sl,.int .i64,.int .i64]),(21,[.sl]),(22,iS 9),(23,iS 9),(25,[.sl]),(26,iS 9),(27,iS 9)]
def aun:TG:=[tT 0 [1],tT 1 [1,4,5],tT 2 [1,4,5,15],tT 3 [2,3],tT 4 [7],tT 5 [2,3]]
def atK:au:=aB Pg Tryz.f29 aun aR
abbrev FK:Type 1:=(α:Type)->ae->ae->Int->Int->(Int->Int->Op α)->Op α
def JB (α:Type)(a c:ae)(d e:Int)(k1:Int->Int->Op α):Op α:=
 CT α a
 (fun g b=>cK (b != 0)
 (k1 g b)
 (gI a 0 [.int .i64,.int .i64,.int .i64,.int .i64,.int .i64,.int .i64,.int .i64,.int .i64,.int .i64]
 (fun q h i r s t w z A=>gI a 0 [.int .i64,.int .i64,.int .i64,.int .i64,.int .i64,.int .i64,.int .i64,.int .i64,.int .i64]
 (fun B C D j l m o F G=>wn α
 (v6 α
 (A2 α i j l h m o c d e
 (fun H p=>k1 0 p)))))))
def vu:FK:=sld JB
def lq:PT (List DV):=pA [pV true [dL,dL,(dI .i64),(dI .i64)]]
def Un (v:FK)(α:Type)(k:RT α):ae->ae->Int->Int->Op α:=fun a b c d=>v α a b c d (fun e g=>ia k e g)
theorem alK:al Pg 29 34 ⟨lq,Un vu⟩:=iP ek5 atK (ag Tryz.func29 (by kernel_rfl)) at6 fun _ _=>by kernel_rfl
def asd:SG:=[(10,[.sl]),(20,[.sl]),(22,iS 2)]
def asp:TG:=[tT 0 [1],tT 1 [1,4,5],tT 2 [1,4,5,15],tT 3 [2,3],tT 4 [7],tT 5 [2,3]]
def asm:au:=aB Pg Tryz.f43 asp aR
def Tj (α:Type)(b c:ae)(d e:Int)(k1:Int->Int->Op α):Op α:=
 G2 α b
 (fun g a=>cK (a != 0)
 (k1 g a)
 (Ht α c d e
 (fun i h=>k1 0 h)))
def Ll:FK:=sld Tj
def Yu (v:FK)(α:Type)(k:RT α):ae->ae->Int->Int->Op α:=fun a b c d=>v α a b c d (fun e g=>ia k e g)
theorem aia:al Pg 43 27 ⟨lq,Yu Ll⟩:=iP ek5 asm (ag Tryz.func43 (by kernel_rfl)) asd fun _ _=>by kernel_rfl
def atg:SG:=[(8,[.cpx .f64,.int .i64]),(16,iS 3),(19,iT),(21,iT),(25,iT),(27,iT)]
def asf:TG:=[tT 0 [1,2],tT 1 [2,4,5],tT 2 [2,4,5,13],tT 3 [2,3],tT 4 [2,6],tT 5 [2,3]]
def atv:au:=aB Pg Tryz.f36 asf aR
noncomputable abbrev Lk6:List bC:=⟨86,25,[⟨nN,Uz gY⟩]⟩::⟨169,58,[⟨jN,Lw Fd⟩]⟩::⟨173,76,[⟨jN,QJ FI⟩]⟩::⟨29,34,[⟨lq,Un vu⟩]⟩::⟨43,27,[⟨lq,Yu Ll⟩]⟩::⟨138,94,[⟨oC,Pn qe⟩]⟩::⟨81,21,[⟨oT,Ze vE⟩]⟩::⟨134,20,[⟨oT,N4 uU⟩]⟩::⟨31,15,[⟨uZ,aat Pu⟩]⟩::Lk5
theorem ak6:bF Lk6 fun c=>bF c.l (al Pg c.f c.nt):=⟨⟨alw,TT⟩,⟨adN,TT⟩,⟨afL,TT⟩,⟨alK,TT⟩,⟨aia,TT⟩,⟨ac7,TT⟩,⟨alD,TT⟩,⟨adQ,TT⟩,⟨al7,TT⟩,ak5⟩
def Ek6:aE:=aE.ofIO Lk6 bG io0
theorem ek6:Ek6.Ok Pg:=aE.ofIO_ok aP ak6
def Tc (α:Type)(e g:Nat)(a:Int)(k1:Int->Int->Int->Op α):Op α:=
 gY α e g a
 (fun h i b=>cK (b != 0)
 (k1 0 0 b)
 (NU α h i a
 (fun c d=>jc α (w64 (c*c)) 1048576
 (fun j=>dK α (w64 (d*d)) 1048576
 (fun l=>k1 j l 0)))))
def Af:FR:=sld Tc
def Vj (v:FR)(α:Type)(k:RT α):Nat->Nat->Int->Op α:=fun a b c=>v α a b c (fun d e g=>oL k d e g)
theorem ajP:al Pg 36 31 ⟨nN,Vj Af⟩:=iP ek6 atv (ag Tryz.func36 (by kernel_rfl)) atg fun _ _=>by kernel_rfl
def ahy:SG:=[(21,iT),(27,iT),(50,iS 3)]
def amY:TG:=[tT 0 [0,1,4],tT 1 [0,1,4,6],tT 2 [0,1,4,6,7],tT 3 [0,1,4,6,7,8],tT 4 [0,1,4,6,8,10],tT 5 [0,1,4,12],tT 6 [4,12,48],tT 7 [4,12],tT 8 [4,5]]
def aba:au:=aB Pg Tryz.f197 amY aR
def A4:PT St:=pS [sI 0,sI 1,sP 4,sP 12] [az 4 [(cD (dX .f64)),xI],az 12 (xs 3)]
def ari {β:Type}(g:St->β):Int->Int->Nat->Nat->I4 β:=A4.unc g
def Xy:PT St:=pS [sP 4,sP 12] [az 4 [(cD (dX .f64)),xI],az 12 (xs 3)]
def Xu {β:Type}(g:St->β):Nat->Nat->I4 β:=Xy.unc g
def V9:PT St:=pS [sP 4,sP 12,sY 48 dB] [az 4 [(cD (dX .f64)),xI],az 12 (xs 3)]
def Vb {β:Type}(g:St->β):Bool->Nat->Nat->I4 β:=V9.unc g
def ZF:aE:=aE.ofIO (⟨214,36,[⟨bj,Pv ym⟩]⟩::Lk6) bG io0
theorem acR:ZF.Ok Pg:=aE.ofIO_ok aP ⟨⟨ac5,TT⟩,ak6⟩
def R4:ah:=ah.sub [1,1,1,1,1,1,0] (emb aba)
def CL (α:Type)(a b:Int)(k1:Op α)(k2:Bool->Op α):Op α:=
 cK (a == b)
 (cK ((Int.tmod a 1048576) == 0)
 (k1)
 (k2 ((Int.tmod a 1048576) == 0)))
 (k2 false)
def tg:rG:=sld CL
def G1 (v:rG)(α:Type)(K:KT α):Int->Int->Nat->Nat->I4 (Op α):=fun g h a b c d e i=>v α g h (Xu (K .normal) a b c d e 0) (fun j=>Vb (K .normal) j a b c d e i)
theorem Wk:∀ (α:Type) (K:KT α),G1 tg α K=A4.unc fun σ=>aF Pg ZF ahy R4 K σ:=bR (fun α K=>by kernel_rfl)
def MC (α:Type)(b a:Int)(k1:Nat->Nat->Int->Int->Op α):Op α:=
 jc α (w64 (b+a)) 2
 (fun c=>ym α c
 (fun g h=>lS α g 64
 (fun d t=>lS α h 64
 (fun e w=>dK α (w64 (11*(w64 (a - c)))) 7
 (fun i=>tg α b a
 (fT α d e 0
 (fun j l m o=>k1 j l m o))
 (fun z=>fT α d e (w64 (2+i))
 (fun p q r s=>k1 p q r s)))))))
def zj:fO:=sld MC
def Qg (v:fO)(α:Type)(k:RT α):Int->Int->Op α:=fun a b=>v α a b (fun c d e g=>bv k c d e g)
def acu:ah:=(ah.put (.m [⟨A4,G1 tg⟩]) [1,1,1,1,1,1] (emb aba))
theorem abr:al Pg 197 54 ⟨dr,Qg zj⟩:=iZ acR (ag Tryz.func197 (by kernel_rfl)) ahy acu ((aA _ _).trans (aG _)) (bc (by kernel_rfl) (aK aba) ⟨Wk,TT⟩) fun _ _=>by kernel_rfl
def Mm:SG:=[(7,iS 3),(8,iS 3)]
def aoP:TG:=[tT 0 [1,2,3,4],tT 1 [4,5]]
def Pw:au:=aB Pg Tryz.f200 aoP aR
def Ln (α:Type)(a b c d e g:Int)(k1:Int->Int->Int->Op α):Op α:=
 Ee α d e g a b c
 (fun h i j=>k1 h i j)
def Ek:fQ:=sld Ln
def NO:PT (List DV):=pA [pV true [(dI .i64),(dI .i64),(dI .i64)],pV false [(dP [(dFn 167 [])] 0)],pV false [(dP [(dI .i64),(dI .i64),(dI .i64)] 0)]]
def Lh (v:fQ)(α:Type)(k:RT α):I6 (Op α):=fun a b c d e g=>v α a b c d e g (fun h i j=>ei k h i j 0)
theorem afl:al Pg 200 12 ⟨NO,Lh Ek⟩:=iP ek6 Pw (ag Tryz.func200 (by kernel_rfl)) Mm fun _ _=>by kernel_rfl
def Lv (α:Type)(a b c d e g:Int)(k1:Int->Int->Int->Op α):Op α:=
 Fd α d e g a b c
 (fun h i j=>k1 h i j)
def D1:fQ:=sld Lv
def O1:PT (List DV):=pA [pV true [(dI .i64),(dI .i64),(dI .i64)],pV false [(dP [(dFn 169 [])] 0)],pV false [(dP [(dI .i64),(dI .i64),(dI .i64)] 0)]]
def MN (v:fQ)(α:Type)(k:RT α):I6 (Op α):=fun a b c d e g=>v α a b c d e g (fun h i j=>ei k h i j 0)
theorem abj:al Pg 200 12 ⟨O1,MN D1⟩:=iP ek6 Pw (ag Tryz.func200 (by kernel_rfl)) Mm fun _ _=>by kernel_rfl
def PF (α:Type)(a b c d e g:Int)(k1:Int->Int->Int->Op α):Op α:=
 EX α d e g a b c
 (fun h i j=>k1 h i j)
def FB:fQ:=sld PF
def Ng:PT (List DV):=pA [pV true [(dI .i64),(dI .i64),(dI .i64)],pV false [(dP [(dFn 177 [])] 0)],pV false [(dP [(dI .i64),(dI .i64),(dI .i64)] 0)]]
def Pr (v:fQ)(α:Type)(k:RT α):I6 (Op α):=fun a b c d e g=>v α a b c d e g (fun h i j=>ei k h i j 0)
theorem aca:al Pg 200 12 ⟨Ng,Pr FB⟩:=iP ek6 Pw (ag Tryz.func200 (by kernel_rfl)) Mm fun _ _=>by kernel_rfl
def NP (α:Type)(a b c d e g:Int)(k1:I4 (Op α)):Op α:=
 FI α d e g a b c
 (fun h i j l=>k1 h i j l)
def DP:xc:=sld NP
def K9:PT (List DV):=pA [pV true [(dI .i64),(dI .i64),(dI .i64)],pV false [(dP [(dFn 173 [])] 0)],pV false [(dP [(dI .i64),(dI .i64),(dI .i64)] 0)]]
def N7 (v:xc)(α:Type)(k:RT α):I6 (Op α):=fun a b c d e g=>v α a b c d e g (fun h i j l=>ei k h i j l)
theorem adg:al Pg 200 12 ⟨K9,N7 DP⟩:=iP ek6 Pw (ag Tryz.func200 (by kernel_rfl)) Mm fun _ _=>by kernel_rfl
def auz:SG:=[(8,[.cpx .f64,.int .i64]),(20,iT),(25,iT)]
def atX:TG:=[tT 0 [1,2],tT 1 [2,4,5],tT 2 [2,4,5,13],tT 3 [2,3],tT 4 [2,4,6],tT 5 [2,3]]
def ar0:au:=aB Pg Tryz.f79 atX aR
def Za:PT (List RV):=pRs [pR true [rD (dI .i64),rD (dI .i64),rD (dI .i64),rD (dI .i64)],wI]
def U9 {β:Type}(g:List RV->β):I5 β:=Za.unc g
abbrev Yz:Type 1:=(α:Type)->Nat->Nat->Int->(I5 (Op α))->Op α
def ZV (α:Type)(c d:Nat)(a:Int)(k1:I5 (Op α)):Op α:=
 gY α c d a
 (fun e g b=>cK (b != 0)
 (k1 0 0 0 0 b)
 (zN α e a
 (fun h i=>zN α g a
 (fun j l=>k1 h i j l 0))))
def Gj:Yz:=sld ZV
def Y7 (v:Yz)(α:Type)(k:RT α):Nat->Nat->Int->Op α:=fun a b c=>v α a b c (fun d e g h i=>U9 k d e g h i)
theorem aiS:al Pg 79 28 ⟨nN,Y7 Gj⟩:=iP ek6 ar0 (ag Tryz.func79 (by kernel_rfl)) auz fun _ _=>by kernel_rfl
def atw:SG:=[(11,[.sl]),(13,iS 2),(24,[.sl]),(29,[.sl]),(33,[.sl]),(34,iS 9),(35,iS 9),(38,[.sl]),(40,iS 2),(42,iS 9),(43,iS 9),(55,iT)]
def asC:TG:=[tT 0 [1],tT 1 [1,4,5],tT 2 [1,4,5,19],tT 3 [2,3],tT 4 [1,22],tT 5 [2,3],tT 6 [1,27],tT 7 [2,3],tT 8 [1,6],tT 9 [1,7,8],tT 10 [1,7,8,50],tT 11 [2,3],tT 12 [57],tT 13 [2,3],tT 14 [2,3]]
def aud:au:=aB Pg Tryz.f45 asC aR
abbrev EQ:Type 1:=(α:Type)->ae->ae->Int->Int->Int->(Int->Int->Op α)->Op α
def Wy (α:Type)(b a:ae)(c d h:Int)(k1:Int->Int->Op α):Op α:=
 vu α b ([]:ae) c d
 (fun i e=>cK (e != 0)
 (k1 i e)
 (cK (((List.length a:Nat):Int) == 0)
 (k1 0 12)
 (cK (decide (3 < ((List.length a:Nat):Int)))
 (k1 0 8)
 (gI b 0 [.int .i64,.int .i64,.int .i64,.int .i64,.int .i64,.int .i64,.int .i64,.int .i64,.int .i64]
 (fun t j l m o p q w z=>wn α
 (v6 α
 (A2 α l m o j p q a c d
 (fun r g=>cK (g != 0)
 (k1 (w64 (r - 1)) g)
 (lX α h 0 3
 (fun s=>cK (!s)
 (k1 0 2)
 (k1 0 0)))))))))))
def IE:EQ:=sld Wy
def X6 (v:EQ)(α:Type)(k:RT α):ae->ae->Int->Int->Int->Op α:=fun a b c d e=>v α a b c d e (fun g h=>ia k g h)
theorem aky:al Pg 45 58 ⟨mi,X6 IE⟩:=iP ek6 aud (ag Tryz.func45 (by kernel_rfl)) atw fun _ _=>by kernel_rfl
def Zy:SG:=[(10,[.sl]),(12,iS 2),(22,[.sl]),(26,[.sl]),(31,[.sl]),(37,[.sl]),(39,iS 5),(40,iS 5),(47,iT)]
def asK:TG:=[tT 0 [1],tT 1 [1,4,5],tT 2 [1,4,5,18],tT 3 [2,3],tT 4 [1,24],tT 5 [2,3],tT 6 [1,28],tT 7 [2,3],tT 8 [1,6],tT 9 [1,6,33],tT 11 [1,6,7],tT 12 [1,6,7,43],tT 13 [2,3],tT 10 [1,6],tT 14 [49],tT 15 [2,3],tT 16 [2,3]]
def asB:TG:=[(9,⟨[1,6],true,[⟨true,1,0,30100,9⟩,⟨true,1,1,30101,5⟩],[]⟩)]
def abY:au:=aB Pg Tryz.f14 asK asB
def sV:OT:=tdC (ah.sub [1,1,1,1,0,1,0] (emb abY))
def Fs:PT St:=pS [sP 1,sI 6] [az 1 [(cD dL),(cD dL),xI,xI,xI]]
def Eb {β:Type}(g:St->β):Int->ae->ae->Int->Int->Int->β:=Fs.unc g
def afj:PT St:=pS [sP 1,sI 6,sY 33 dB] [az 1 [(cD dL),(cD dL),xI,xI,xI]]
def w9 {β:Type}(g:St->β):Int->Bool->ae->ae->Int->Int->Int->β:=afj.unc g
def ru:ah:=ah.sub [1,1,1,1,0,1,0,0] (emb abY)
def tI (α:Type)(b:ae)(a:Int)(kn:Int->Op α)(k1:Int->Int->Op α)(k2:Int->Bool->Op α):Op α:=
 cK (decide (a < ((List.length b:Nat):Int)))
 (gI b a [.int .i64,.int .i64,.int .i64,.int .i64,.int .i64]
 (fun d e g h i=>Cx α d e g h i
 (fun c=>cK (c != 0)
 (k1 a c)
 (kn (w64 (a+1))))))
 (k2 a (decide (a < ((List.length b:Nat):Int))))
def oU (α:Type)(a:ae)(k1:Int->Int->Op α)(k2:Int->Bool->Op α):Nat->Int->Op α
 | 0,_=>none
 | n+1,b=>tI α a b (oU α a k1 k2 n) k1 k2
def GP (α:Type)(a:ae)(k1:Int->Int->Op α)(k2:Int->Bool->Op α)(b:Int):Op α:=oU α a k1 k2 aN b
def ye:lj:=sld GP
def Od (v:lj)(α:Type)(K:KT α):Int->ae->ae->Int->Int->Int->Op α:=fun d e c g h i=>v α c (fun a b=>dQ (K .ret) a b) (fun a b=>w9 (K (.exit 0)) a b e c g h i) d
theorem aew (α:Type)(K:KT α)(Kn:SK α)(a:Int)(c b:ae)(d e g:Int):Eb (fun σ=>aF Pg Ek6 Zy ru (cX (fun σ=>bW sV σ Kn) K) σ) a c b d e g=tI α b a (fun a=>Eb Kn a c b d e g) (fun h i=>dQ (K .ret) h i) (fun h i=>w9 (K (.exit 0)) h i c b d e g):=by kernel_rfl
theorem age (α:Type)(K:KT α):∀ (n:Nat) (b:Int) (e a:ae) (g h i:Int),oU α a (fun c d=>dQ (K .ret) c d) (fun c d=>w9 (K (.exit 0)) c d e a g h i) n b=Eb (aS (aF Pg Ek6 Zy ru) sV K n) b e a g h i:=by
 intro n
 induction n with
 | zero=>intros;rfl
 | succ n ih=>intro b e a g h i;exact (congrArg (fun kn=>tI α a b kn (fun c d=>dQ (K .ret) c d) (fun c d=>w9 (K (.exit 0)) c d e a g h i)) (funext fun b=>ih b e a g h i)).trans (aew α K (aS (aF Pg Ek6 Zy ru) sV K n) b e a g h i).symm
theorem abQ:∀ (α:Type) (K:KT α),Od ye α K=Fs.unc fun σ=>aS (aF Pg Ek6 Zy ru) sV K aN σ:=bR (fun α K=>funext fun a=>funext fun b=>funext fun c=>funext fun d=>funext fun e=>funext fun g=>age α K aN a b c d e g)
def Zt (α:Type)(c a:ae)(d e g:Int)(k1:Int->Int->Op α):Op α:=
 Ll α c ([]:ae) d e
 (fun h b=>cK (b != 0)
 (k1 h b)
 (cK (((List.length a:Nat):Int) == 0)
 (k1 0 12)
 (cK (decide (3 < ((List.length a:Nat):Int)))
 (k1 0 8)
 (ye α a
 (fun i j=>k1 i j)
 (fun m o=>iq α g 0 3
 (fun l=>cK (!l)
 (k1 0 2)
 (k1 0 0))) 0))))
def Dv:EQ:=sld Zt
def aap (v:EQ)(α:Type)(k:RT α):ae->ae->Int->Int->Int->Op α:=fun a b c d e=>v α a b c d e (fun g h=>ia k g h)
def aip:ah:=(ah.put (.m [⟨Fs,Od ye⟩]) [1,1,1,1,0,1,0] (emb abY))
theorem akq:al Pg 14 50 ⟨mi,aap Dv⟩:=iZ ek6 (ag Tryz.func14 (by kernel_rfl)) Zy aip ((aA _ _).trans (aG _)) (bK (td:=sV) (by kernel_rfl) (aK abY) ⟨abQ,TT⟩) fun _ _=>by kernel_rfl
end
end Go.AM.K
