/- Printed by KGen. -/
import Derived.Test.YtmcplmhohldpjaaGreatRb
namespace Go.AM.K
open Go.Proofs
set_option maxRecDepth 100000
set_option linter.unusedVariables false
noncomputable section
def I3:SG:=[(27,iS 2),(28,iS 2),(34,iS 2),(36,iS 2),(40,iS 2),(41,iS 2)]
def amP:TG:=[tT 0 [0,2],tT 1 [0,2,3],tT 2 [0,2,4,5],tT 3 [0,2,4,5,6,7],tT 4 [0,2,4,5,6,7,22],tT 5 [0,2,4,5,6,7,8],tT 6 [0,2,4,5,6,7,8,9],tT 7 [0,2,4,5,6,7,8,9,32],tT 8 [0,2,4,5,6,7],tT 9 [0,2,4,5,6,7],tT 10 [2,4,5,39],tT 11 [2],tT 12 [2]]
def aou:TG:=[tT 4 [0,2,4,5,6,7]]
def P4:au:=aD Pg Tryz.f220 amP aou
def oR:OT:=tdC (ag.sub [1,1,1,1,0,0] (emb P4))
def As:PT St:=pS [sI 0,sP 2,sP 4,sP 5,sI 6,sI 7] [aB 2 [xI,xI],aB 4 [xI,xI],aB 5 [xI,xI]]
def BC {β:Type}(g:St->β):I9 β:=As.unc g
def aar:PT St:=pS [sI 0,sP 2,sP 4,sP 5,sI 6,sI 7,sY 22 dB] [aB 2 [xI,xI],aB 4 [xI,xI],aB 5 [xI,xI]]
def rW {β:Type}(g:St->β):Int->Int->Int->Bool->I6 β:=aar.unc g
def qi:ag:=ag.sub [1,1,1,1,0,0,0] (emb P4)
def ne (α:Type)(c b a d e g h:Int)(kn:I6 (Op α))(k1:Int->Int->Bool->I4 (Op α)):Op α:=
 cK (c != b)
 (cK (c != a)
 (Bp α d e g h
 (fun i j=>cK (decide ((w64 (Int.tdiv (w64 (b+a)) 2))<=c))
 (kn (w64 (Int.tdiv (w64 (b+a)) 2)) a i j g h)
 (kn b (w64 (Int.tdiv (w64 (b+a)) 2)) d e i j)))
 (k1 b a (c != a) d e g h))
 (k1 b a false d e g h)
def lP (α:Type)(a:Int)(k1:Int->Int->Bool->I4 (Op α)):Nat->I6 (Op α)
 | 0,_,_,_,_,_,_=>none
 | n+1,b,c,d,e,g,h=>ne α a b c d e g h (lP α a k1 n) k1
def CM (α:Type)(a:Int)(k1:Int->Int->Bool->I4 (Op α))(b c d e g h:Int):Op α:=lP α a k1 aN b c d e g h
abbrev D6:Type 1:=(α:Type)->Int->(Int->Int->Bool->I4 (Op α))->I6 (Op α)
def uW:D6:=sld CM
def Hj (v:D6)(α:Type)(K:KT α):I9 (Op α):=fun a b c d e g h i j=>v α a (fun l m o p q r s=>rW (K (.exit 0)) a l m o d e p q r s) b c g h i j
theorem YY (α:Type)(K:KT α)(Kn:SK α)(a b c i j d e g h:Int):BC (fun σ=>aF Pg Ek3 I3 qi (di (fun σ=>bR oR σ Kn) K) σ) a b c i j d e g h=ne α a b c d e g h (fun b c d e g h=>BC Kn a b c i j d e g h) (fun l m o p q r s=>rW (K (.exit 0)) a l m o i j p q r s):=by kernel_rfl
theorem WO (α:Type)(K:KT α):∀ (n:Nat) (a b c i j d e g h:Int),lP α a (fun l m o p q r s=>rW (K (.exit 0)) a l m o i j p q r s) n b c d e g h=BC (aS (aF Pg Ek3 I3 qi) oR K n) a b c i j d e g h:=by
 intro n
 induction n with
 | zero=>intros;rfl
 | succ n ih=>intro a b c i j d e g h;exact (congrArg (fun kn=>ne α a b c d e g h kn (fun l m o p q r s=>rW (K (.exit 0)) a l m o i j p q r s)) (funext fun b=>funext fun c=>funext fun d=>funext fun e=>funext fun g=>funext fun h=>ih a b c i j d e g h)).trans (YY α K (aS (aF Pg Ek3 I3 qi) oR K n) a b c i j d e g h).symm
theorem XF:∀ (α:Type) (K:KT α),Hj uW α K=As.unc fun σ=>aS (aF Pg Ek3 I3 qi) oR K aN σ:=bM (fun α K=>funext fun a=>funext fun b=>funext fun c=>funext fun d=>funext fun e=>funext fun g=>funext fun h=>funext fun i=>funext fun j=>WO α K aN a b c d e g h i j)
abbrev jX:Type 1:=(α:Type)->Int->(Int->Int->Op α)->Op α
def Oz (α:Type)(a:Int)(k1:Int->Int->Op α):Op α:=
 eM α 2251799813685248
 (fun b=>uW α a
 (fun c i j d e g h=>cK (a == c)
 (k1 d e)
 (k1 g h)) 0 524288 67108864 0 b b)
def iC:jX:=sld Oz
def Ng (v:jX)(α:Type)(k:RT α):Int->Op α:=fun a=>v α a (fun b c=>de k b c)
def agq:ag:=(ag.put (.m [⟨As,Hj uW⟩]) [1,1,1,1,0,0] (emb P4))
theorem adz:al Pg 220 42 ⟨bC,Ng iC⟩:=iZ ek3 (ah Tryz.func220 (by kernel_rfl)) I3 agq ((aw _ _).trans (aG _)) (bJ (td:=oR) (by kernel_rfl) (aM P4) ⟨XF,TT⟩) fun _ _=>by kernel_rfl
def anq:TG:=[tT 0 [0,1,2],tT 1 [2,7,8],tT 2 [2,7,8,22],tT 3 [6],tT 4 [9,10],tT 5 [9,10,32],tT 6 [6],tT 7 [9,34],tT 8 [9],tT 9 [6]]
def aov:au:=aD Pg Tryz.f176 anq aX
def Mr (α:Type)(d e b:Int)(k1:Int->Op α):Op α:=
 wq α (IntKind.wrap .u64 (d)) (IntKind.wrap .u64 (e))
 (fun c g=>cK (decide ((IntKind.wrap .u64 (b))<=c))
 (k1 2147483647)
 (u7 α c g (IntKind.wrap .u64 (b))
 (fun a h=>cK (decide (2147483647<=a))
 (k1 2147483647)
 (cK (h != 0)
 (k1 (w64 ((IntKind.wrap .u64 (a+1)))))
 (k1 (w64 (a)))))))
def yX:vc:=sld Mr
def Mc (v:vc)(α:Type)(k:RT α):Int->Int->Int->Op α:=fun a b c=>v α a b c (fun d=>bv k d)
theorem adi:al Pg 176 39 ⟨fg,Mc yX⟩:=iP ek3 aov (ah Tryz.func176 (by kernel_rfl)) bw fun _ _=>by kernel_rfl
def anU:TG:=[tT 0 [0,1,2],tT 1 [0,2,8,9],tT 2 [0,2,8,9,24],tT 3 [6,7],tT 4 [0,2,10,11],tT 5 [0,2,10,11,34],tT 6 [6,7],tT 7 [0,2,6,7,11],tT 8 [0,6,7,54],tT 9 [0,6,7],tT 10 [6,7,58],tT 11 [6,7],tT 12 [6,7]]
def aaU:au:=aD Pg Tryz.f143 anU aX
def zE:PT St:=pS [sI 0,sI 2,sI 6,sY 7 dB,sY 11 (dI .u64)] []
def aoL {β:Type}(g:St->β):Int->Int->Int->Bool->Int->β:=zE.unc g
def Zs:PT St:=pS [sI 0,sI 6,sY 7 dB,sY 54 dB] []
def Y0 {β:Type}(g:St->β):Int->Int->Bool->Bool->β:=Zs.unc g
def S3:ag:=ag.sub [1,1,1,1,1,1,0,0] (emb aaU)
def Dv (α:Type)(c a b:Int)(k1:Bool->Op α):Op α:=
 cK (decide ((IntKind.wrap .u64 (a)) < (IntKind.wrap .u64 (2*b))))
 (k1 true)
 (cK (decide (0<=c))
 (k1 ((IntKind.wrap .u64 (2*b)) == (IntKind.wrap .u64 (a))))
 (k1 false))
def nL:cW:=sld Dv
def H5 (v:cW)(α:Type)(K:KT α):Int->Int->Int->Bool->Int->Op α:=fun a b c d e=>v α a b e (fun g=>Y0 (K .normal) a c d g)
theorem aaD:∀ (α:Type) (K:KT α),H5 nL α K=zE.unc fun σ=>aF Pg Ek3 bw S3 K σ:=bM (fun α K=>by kernel_rfl)
abbrev P3:Type 1:=(α:Type)->Int->Int->Int->(Int->Bool->Op α)->Op α
def N5 (α:Type)(c g d:Int)(k1:Int->Bool->Op α):Op α:=
 nW α c
 (fun h=>wq α (IntKind.wrap .u64 (h)) (IntKind.wrap .u64 (g))
 (fun e i=>cK (decide ((IntKind.wrap .u64 (d))<=e))
 (k1 2147483647 false)
 (u7 α e i (IntKind.wrap .u64 (d))
 (fun a b=>cK (decide (2147483647 < a))
 (k1 2147483647 false)
 (nL α c d b
 (fun j=>cK j
 (cK (decide (c < 0))
 (k1 (w64 (0 - (w64 ((w64 (a))+1)))) (b != 0))
 (k1 (w64 ((w64 (a))+1)) (b != 0)))
 (cK (decide (c < 0))
 (k1 (w64 (0 - (w64 (a)))) (b != 0))
 (k1 (w64 (a)) (b != 0)))))))))
def mL:P3:=sld N5
def Q8 (v:P3)(α:Type)(k:RT α):Int->Int->Int->Op α:=fun a b c=>v α a b c (fun d e=>Dp k d e)
def adF:ag:=(ag.put (.m [⟨zE,H5 nL⟩]) [1,1,1,1,1,1,0] (emb aaU))
theorem aeN:al Pg 143 63 ⟨fg,Q8 mL⟩:=iZ ek3 (ah Tryz.func143 (by kernel_rfl)) bw adF ((aw _ _).trans (aG _)) (aY (by kernel_rfl) (aM aaU) ⟨aaD,TT⟩) fun _ _=>by kernel_rfl
def aqy:TG:=[tT 0 [1],tT 1 [2]]
def apG:au:=aD Pg Tryz.f147 aqy aX
def OF (α:Type)(a b:Int)(k1:Int->Op α):Op α:=
 jw α a b
 (fun c=>nh α c
 (fun d=>k1 d))
def mH:dz:=sld OF
def Pa (v:dz)(α:Type)(k:RT α):Int->Int->Op α:=fun a b=>v α a b (fun c=>bv k c)
theorem afX:al Pg 147 6 ⟨bB,Pa mH⟩:=iP ek3 apG (ah Tryz.func147 (by kernel_rfl)) ahp fun _ _=>by kernel_rfl
def nI:SG:=[(16,[.flt .f64,.flt .f64]),(25,[.flt .f64,.flt .f64])]
def aqo:TG:=[tT 0 [0,1,4],tT 1 [0,1,4,6],tT 2 [0,1,4,6,16,17],tT 3 [0,1,4,6,16,17,18],tT 4 [0,1,4,6,8,16,17],tT 5 [0,1,4,6,16,17,22],tT 6 [4,5],tT 7 [0,1,4,6,16,17],tT 8 [0,1,4,25,26],tT 9 [0,1,4,25,26,27],tT 10 [0,1,4,10,25,26],tT 11 [0,1,4,25,26,32],tT 12 [4,5],tT 13 [0,1,4,25,26],tT 14 [4,5]]
def aqf:TG:=[tT 3 [0,1,4,6,16,17],tT 9 [0,1,4,25,26]]
def xe:au:=aD Pg Tryz.f145 aqo aqf
def tc:OT:=tdC (ag.sub [1,1,0,1,0] (emb xe))
def nK:OT:=tdC (ag.sub [1,1,1,0,1,0] (emb xe))
def tf:PT St:=pS [sY 0 (dX .f64),sY 1 (dF .f64),sP 4,sP 6,sl 16 (aV true [(cD (dF .f64)),(cD (dF .f64))]),sI 17,sY 18 dB] [aB 4 [xI,xI],aB 6 [(cD (dF .f64)),(cD (dF .f64))]]
def tL {β:Type}(g:St->β):Nat->Nat->Nat->Nat->Nat->Int->Bool->Int->Int->Nat->Nat->β:=tf.unc g
def VR:PT St:=pS [sY 0 (dX .f64),sY 1 (dF .f64),sP 4,sP 6,sY 8 (dF .f64),sl 16 (aV true [(cD (dF .f64)),(cD (dF .f64))]),sI 17] [aB 4 [xI,xI],aB 6 [(cD (dF .f64)),(cD (dF .f64))]]
def VH {β:Type}(g:St->β):Nat->Nat->Nat->Nat->Nat->Nat->Int->Int->Int->Nat->Nat->β:=VR.unc g
def zx:PT St:=pS [sY 0 (dX .f64),sY 1 (dF .f64),sP 4,sP 6,sl 16 (aV true [(cD (dF .f64)),(cD (dF .f64))]),sI 17] [aB 4 [xI,xI],aB 6 [(cD (dF .f64)),(cD (dF .f64))]]
def zT {β:Type}(g:St->β):Nat->Nat->Nat->Nat->Nat->Int->Int->Int->Nat->Nat->β:=zx.unc g
def WB:PT St:=pS [sP 4,sI 5] [aB 4 [xI,xI]]
def iz {β:Type}(g:St->β):Int->Int->Int->β:=WB.unc g
def sZ:PT St:=pS [sY 0 (dX .f64),sY 1 (dF .f64),sP 4,sl 25 (aV true [(cD (dF .f64)),(cD (dF .f64))]),sI 26,sY 27 dB] [aB 4 [xI,xI]]
def uT {β:Type}(g:St->β):Nat->Nat->Nat->Nat->Nat->Int->Bool->Int->Int->β:=sZ.unc g
def aat:PT St:=pS [sY 0 (dX .f64),sY 1 (dF .f64),sP 4,sY 10 (dF .f64),sl 25 (aV true [(cD (dF .f64)),(cD (dF .f64))]),sI 26] [aB 4 [xI,xI]]
def WM {β:Type}(g:St->β):Nat->Nat->Nat->Nat->Nat->Nat->Int->Int->Int->β:=aat.unc g
def Ac:PT St:=pS [sY 0 (dX .f64),sY 1 (dF .f64),sP 4,sl 25 (aV true [(cD (dF .f64)),(cD (dF .f64))]),sI 26] [aB 4 [xI,xI]]
def A3 {β:Type}(g:St->β):Nat->Nat->Nat->Nat->Nat->Int->Int->Int->β:=Ac.unc g
def RY:ag:=ag.sub [1,1,1,0,1,0,0,1,1,0,0,0] (emb xe)
abbrev pY:Type 1:=(α:Type)->Nat->Nat->Int->(Nat->Op α)->Op α
def Cs (α:Type)(b c:Nat)(a:Int)(k1:Nat->Op α):Op α:=
 cK (a == 1)
 (k1 c)
 (cK (a == 0)
 (k1 b)
 (none))
def oG:pY:=sld Cs
def zN (v:pY)(α:Type)(K:KT α):Nat->Nat->Nat->Nat->Nat->Int->Bool->Int->Int->Op α:=fun d e g a b c l h i=>v α a b c (fun j=>WM (K .normal) d e g j a b c h i)
theorem Yj:∀ (α:Type) (K:KT α),zN oG α K=sZ.unc fun σ=>aF Pg Ek3 nI RY K σ:=bM (fun α K=>by kernel_rfl)
def qk:ag:=ag.sub [1,1,1,0,1,0,0] (ag.put (.m [⟨sZ,zN oG⟩]) [1,1,1,0,1,0,0,1,1,0,0] (emb xe))
def t7 (α:Type)(b c d:Nat)(a:Int)(kn:Int->Op α)(k1:Op α)(k2:Int->Bool->Op α):Op α:=
 cK (decide (a < 2))
 (oG α c d a
 (fun e=>vq α e
 (fun g=>cK ((FloatKind.format .f64).order g b == some Ordering.gt)
 (k1)
 (kn (w64 (a+1))))))
 (k2 a (decide (a < 2)))
def ue (α:Type)(a b c:Nat)(k1:Op α)(k2:Int->Bool->Op α):Nat->Int->Op α
 | 0,_=>none
 | n+1,d=>t7 α a b c d (ue α a b c k1 k2 n) k1 k2
def C7 (α:Type)(a b c:Nat)(k1:Op α)(k2:Int->Bool->Op α)(d:Int):Op α:=ue α a b c k1 k2 aN d
abbrev DU:Type 1:=(α:Type)->Nat->Nat->Nat->(Op α)->(Int->Bool->Op α)->Int->Op α
def tH:DU:=sld C7
def JB (v:DU)(α:Type)(K:KT α):Nat->Nat->Nat->Nat->Nat->Int->Int->Int->Op α:=fun d e a b c g h i=>v α a b c (iz (K .ret) 2 0 0) (fun j l=>uT (K (.exit 2)) d e a b c j l h i) g
theorem V2 (α:Type)(K:KT α)(Kn:SK α)(e g a b c:Nat)(d h i:Int):A3 (fun σ=>aF Pg Ek3 nI qk (di (fun σ=>bR nK σ Kn) K) σ) e g a b c d h i=t7 α a b c d (fun d=>A3 Kn e g a b c d h i) (iz (K .ret) 2 0 0) (fun j l=>uT (K (.exit 2)) e g a b c j l h i):=by kernel_rfl
theorem YK (α:Type)(K:KT α):∀ (n:Nat) (e g a b c:Nat) (d h i:Int),ue α a b c (iz (K .ret) 2 0 0) (fun j l=>uT (K (.exit 2)) e g a b c j l h i) n d=A3 (aS (aF Pg Ek3 nI qk) nK K n) e g a b c d h i:=by
 intro n
 induction n with
 | zero=>intros;rfl
 | succ n ih=>intro e g a b c d h i;exact (congrArg (fun kn=>t7 α a b c d kn (iz (K .ret) 2 0 0) (fun j l=>uT (K (.exit 2)) e g a b c j l h i)) (funext fun d=>ih e g a b c d h i)).trans (V2 α K (aS (aF Pg Ek3 nI qk) nK K n) e g a b c d h i).symm
theorem aa0:∀ (α:Type) (K:KT α),JB tH α K=Ac.unc fun σ=>aS (aF Pg Ek3 nI qk) nK K aN σ:=bM (fun α K=>funext fun a=>funext fun b=>funext fun c=>funext fun d=>funext fun e=>funext fun g=>funext fun h=>funext fun i=>YK α K aN a b c d e g h i)
def RL:ag:=ag.sub [1,1,0,1,0,0,1,1,0,0,0] (emb xe)
def C4 (α:Type)(b c:Nat)(a:Int)(k1:Nat->Op α):Op α:=
 cK (a == 1)
 (k1 c)
 (cK (a == 0)
 (k1 b)
 (none))
def nO:pY:=sld C4
def AP (v:pY)(α:Type)(K:KT α):Nat->Nat->Nat->Nat->Nat->Int->Bool->Int->Int->Nat->Nat->Op α:=fun d e g a b c o h i j l=>v α a b c (fun m=>VH (K .normal) d e g m a b c h i j l)
theorem Zn:∀ (α:Type) (K:KT α),AP nO α K=tf.unc fun σ=>aF Pg Ek3 nI RL K σ:=bM (fun α K=>by kernel_rfl)
def ui:ag:=ag.sub [1,1,0,1,0,0] (ag.put (.m [⟨tf,AP nO⟩]) [1,1,0,1,0,0,1,1,0,0] (emb xe))
def sQ (α:Type)(b c:Nat)(a:Int)(kn:Int->Op α)(k1:Op α)(k2:Int->Bool->Op α):Op α:=
 cK (decide (a < 2))
 (nO α b c a
 (fun d=>Af α d
 (fun e=>cK (!e)
 (k1)
 (kn (w64 (a+1))))))
 (k2 a (decide (a < 2)))
def tg (α:Type)(a b:Nat)(k1:Op α)(k2:Int->Bool->Op α):Nat->Int->Op α
 | 0,_=>none
 | n+1,c=>sQ α a b c (tg α a b k1 k2 n) k1 k2
def Cy (α:Type)(a b:Nat)(k1:Op α)(k2:Int->Bool->Op α)(c:Int):Op α:=tg α a b k1 k2 aN c
abbrev Cu:Type 1:=(α:Type)->Nat->Nat->(Op α)->(Int->Bool->Op α)->Int->Op α
def sV:Cu:=sld Cy
def GO (v:Cu)(α:Type)(K:KT α):Nat->Nat->Nat->Nat->Nat->Int->Int->Int->Nat->Nat->Op α:=fun c d e a b g h i j l=>v α a b (iz (K .ret) 27 0 0) (fun m o=>tL (K (.exit 0)) c d e a b m o h i j l) g
theorem aby (α:Type)(K:KT α)(Kn:SK α)(d e g a b:Nat)(c h i:Int)(j l:Nat):zT (fun σ=>aF Pg Ek3 nI ui (di (fun σ=>bR tc σ Kn) K) σ) d e g a b c h i j l=sQ α a b c (fun c=>zT Kn d e g a b c h i j l) (iz (K .ret) 27 0 0) (fun m o=>tL (K (.exit 0)) d e g a b m o h i j l):=by kernel_rfl
theorem abb (α:Type)(K:KT α):∀ (n:Nat) (d e g a b:Nat) (c h i:Int) (j l:Nat),tg α a b (iz (K .ret) 27 0 0) (fun m o=>tL (K (.exit 0)) d e g a b m o h i j l) n c=zT (aS (aF Pg Ek3 nI ui) tc K n) d e g a b c h i j l:=by
 intro n
 induction n with
 | zero=>intros;rfl
 | succ n ih=>intro d e g a b c h i j l;exact (congrArg (fun kn=>sQ α a b c kn (iz (K .ret) 27 0 0) (fun m o=>tL (K (.exit 0)) d e g a b m o h i j l)) (funext fun c=>ih d e g a b c h i j l)).trans (aby α K (aS (aF Pg Ek3 nI ui) tc K n) d e g a b c h i j l).symm
theorem XL:∀ (α:Type) (K:KT α),GO sV α K=zx.unc fun σ=>aS (aF Pg Ek3 nI ui) tc K aN σ:=bM (fun α K=>funext fun a=>funext fun b=>funext fun c=>funext fun d=>funext fun e=>funext fun g=>funext fun h=>funext fun i=>funext fun j=>funext fun l=>abb α K aN a b c d e g h i j l)
abbrev OY:Type 1:=(α:Type)->Nat->Nat->Nat->(Int->Int->Int->Op α)->Op α
def MG (α:Type)(a b c:Nat)(k1:Int->Int->Int->Op α):Op α:=
 sV α a b
 (k1 0 0 27)
 (fun g h=>tH α c a b
 (k1 0 0 2)
 (fun i j=>Gc α a b
 (fun d e=>k1 d e 0)) 0) 0
def zK:OY:=sld MG
def Ro:PT (List DV):=pA [pV false [(dX .f64)],pV false [(dF .f64)]]
def Qt (v:OY)(α:Type)(k:RT α):Nat->Nat->Nat->Op α:=fun a b c=>v α a b c (fun d e g=>qa k d e g)
def afz:ag:=(ag.put (.m [⟨zx,GO sV⟩]) [1,1,0,1,0] (ag.put (.m [⟨tf,AP nO⟩]) [1,1,0,1,0,0,1,1,0,0] (ag.put (.m [⟨Ac,JB tH⟩]) [1,1,1,0,1,0] (ag.put (.m [⟨sZ,zN oG⟩]) [1,1,1,0,1,0,0,1,1,0,0] (emb xe)))))
theorem ab6:al Pg 145 37 ⟨Ro,Qt zK⟩:=iZ ek3 (ah Tryz.func145 (by kernel_rfl)) nI afz ((aw _ _).trans ((aw _ _).trans ((aw _ _).trans ((aw _ _).trans (aG _))))) (bJ (td:=tc) (by kernel_rfl) (aY (by kernel_rfl) (bJ (td:=nK) (by kernel_rfl) (aY (by kernel_rfl) (aM xe) ⟨Yj,TT⟩) ⟨aa0,TT⟩) ⟨Zn,TT⟩) ⟨XL,TT⟩) fun _ _=>by kernel_rfl
def arm:TG:=[tT 0 [0,1,4],tT 1 [0,1,4,15],tT 2 [4,5],tT 3 [4,6,7],tT 4 [4,5]]
def am7:au:=aD Pg Tryz.f179 arm aX
abbrev fV:Type 1:=(α:Type)->Int->Int->(Nat->Nat->Int->Int->Op α)->Op α
def Mm (α:Type)(a b:Int)(k1:Nat->Nat->Int->Int->Op α):Op α:=
 jy α a 1000000000
 (fun c=>cK (!c)
 (k1 0 0 0 2)
 (kM α b 1 1000000000
 (fun d=>cK (!d)
 (k1 0 0 0 2)
 (mF α (w64 (a*1048576)) b
 (fun e g=>jf α g
 (fun h=>f9 α e 0 h
 (fun i j l m=>k1 i j l m)))))))
def AI:fV:=sld Mm
def OX (v:fV)(α:Type)(k:RT α):Int->Int->Op α:=fun a b=>v α a b (fun c d e g=>bt k c d e g)
theorem ac3:al Pg 179 32 ⟨ed,OX AI⟩:=iP ek3 am7 (ah Tryz.func179 (by kernel_rfl)) bw fun _ _=>by kernel_rfl
def ahZ:SG:=[(7,iT),(12,iT),(19,iT),(21,iT),(25,iT),(27,iT),(33,iT)]
def anl:TG:=[tT 0 [1,2],tT 1 [1,2,5],tT 2 [2,3],tT 3 [1,2,17],tT 4 [2,3],tT 5 [1,2,4],tT 6 [2,3]]
def X5:au:=aD Pg Tryz.f136 anl aX
def zP:PT St:=pS [sP 1,sP 2] [aB 1 [xI,xI],aB 2 [(cD (dX .f64)),xI]]
def ang {β:Type}(g:St->β):Int->Int->Nat->Nat->Int->β:=zP.unc g
def aah:PT St:=pS [sP 1,sP 2,sY 5 dB] [aB 1 [xI,xI],aB 2 [(cD (dX .f64)),xI]]
def aap {β:Type}(g:St->β):Bool->Int->Int->Nat->Nat->Int->β:=aah.unc g
def YR:ag:=ag.sub [1,0,0,0] (emb X5)
def CG (α:Type)(a b:Int)(k1:Bool->Op α):Op α:=
 jy α a 67108864
 (fun c=>cK (!c)
 (k1 true)
 (jy α b 67108864
 (fun d=>k1 (!d))))
def rQ:bS:=sld CG
def HY (v:bS)(α:Type)(K:KT α):Int->Int->Nat->Nat->Int->Op α:=fun a b c d e=>v α a b (fun g=>aap (K .normal) g a b c d e)
theorem X8:∀ (α:Type) (K:KT α),HY rQ α K=zP.unc fun σ=>aF Pg Ek3 ahZ YR K σ:=bM (fun α K=>by kernel_rfl)
def PC (α:Type)(b a:Int)(k1:Nat->Nat->Int->Int->Op α):Op α:=
 rQ α b a
 (fun d=>cK d
 (k1 0 0 0 2)
 (cK (decide (a < b))
 (k1 0 0 0 10)
 (jq α (w64 (b+a)) 2
 (fun c=>f9 α c 0 (w64 (a - c))
 (fun e g h i=>k1 e g h i)))))
def mi:fV:=sld PC
def LN (v:fV)(α:Type)(k:RT α):Int->Int->Op α:=fun a b=>v α a b (fun c d e g=>bt k c d e g)
def agn:ag:=(ag.put (.m [⟨zP,HY rQ⟩]) [1,0,0] (emb X5))
theorem acS:al Pg 136 40 ⟨bB,LN mi⟩:=iZ ek3 (ah Tryz.func136 (by kernel_rfl)) ahZ agn ((aw _ _).trans (aG _)) (aY (by kernel_rfl) (aM X5) ⟨X8,TT⟩) fun _ _=>by kernel_rfl
def SZ:SG:=[(9,iT),(13,iS 2),(19,iT),(23,iS 2),(29,[.sl]),(33,[.sl]),(38,iS 5),(39,iS 5),(43,iT),(49,iT),(56,iT),(63,iT),(69,iT),(78,iT),(81,iT),(86,iT),(89,iT),(97,iT),(103,iT)]
def asr:TG:=[tT 0 [1],tT 1 [1,11],tT 2 [2,3],tT 3 [1,4],tT 4 [1,4,16],tT 5 [2,3],tT 6 [1,21],tT 7 [2,3],tT 8 [1,5],tT 9 [1,5,26],tT 10 [2,3],tT 11 [1,31],tT 12 [2,3],tT 13 [1,33,34,35],tT 14 [1,33,34,35,36],tT 15 [1,6,7,33,34,35],tT 16 [1,6,7,33,34,35,40],tT 17 [2,3],tT 18 [1,6,33,34,35,75],tT 19 [2,3],tT 20 [1,33,34,35],tT 21 [106],tT 22 [2,3],tT 23 [2,3]]
def aua:TG:=[(14,⟨[1,33,34,35],true,[⟨false,33,0,20033,5⟩,⟨true,1,6,30106,5⟩],[]⟩)]
def Yk:au:=aD Pg Tryz.f70 asr aua
def sp:OT:=tdC (ag.sub [1,1,1,1,1,1,0,1,0] (emb Yk))
def yF:PT St:=pS [sP 1,sI 6,sP 7,sY 33 dL,sI 34,sI 35] [aB 1 [xI,xI,xI,xI,xI,xI,(cD dL),xI,xI],aB 7 (xs 5)]
def arx {β:Type}(g:St->β):Int->ae->Int->Int->Int->Int->Int->Int->Int->Int->ae->I7 β:=yF.unc g
def adY:PT St:=pS [sP 1,sI 6,sP 7,sY 33 dL,sI 34,sI 35,sY 40 dB] [aB 1 [xI,xI,xI,xI,xI,xI,(cD dL),xI,xI],aB 7 (xs 5)]
def acV {β:Type}(g:St->β):Int->ae->Int->Int->Bool->Int->Int->Int->Int->Int->Int->ae->I7 β:=adY.unc g
def FI:PT St:=pS [sP 1,sY 33 dL,sI 34,sI 35] [aB 1 [xI,xI,xI,xI,xI,xI,(cD dL),xI,xI]]
def F3 {β:Type}(g:St->β):ae->Int->Int->Int->Int->Int->Int->Int->Int->ae->Int->Int->β:=FI.unc g
def ack:PT St:=pS [sI 2,sI 3] []
def kj {β:Type}(g:St->β):Int->Int->β:=ack.unc g
def aeC:PT St:=pS [sP 1,sY 33 dL,sI 34,sI 35,sY 36 dB] [aB 1 [xI,xI,xI,xI,xI,xI,(cD dL),xI,xI]]
def yG {β:Type}(g:St->β):ae->Int->Int->Bool->Int->Int->Int->Int->Int->Int->ae->Int->Int->β:=aeC.unc g
def Vy:PT (List RV):=pRs [wI,wI]
def Bj {β:Type}(g:List RV->β):Int->Int->β:=Vy.unc g
def Xi:ag:=ag.sub [1,1,1,1,1,1,0,1,0,0,1,1,0,0,1,0,0] (emb Yk)
abbrev IQ:Type 1:=(α:Type)->Int->Int->Int->Int->Int->(Bool->Op α)->Op α
def GV (α:Type)(a b c d e:Int)(k1:Bool->Op α):Op α:=
 kJ α a
 (fun g=>cK (!g)
 (k1 true)
 (kJ α b
 (fun h=>cK (!h)
 (k1 true)
 (rm α c
 (fun i=>cK (!i)
 (k1 true)
 (rm α d
 (fun j=>cK (!j)
 (k1 true)
 (oL α e
 (fun l=>k1 (!l))))))))))
def pO:IQ:=sld GV
def Fu (v:IQ)(α:Type)(K:KT α):Int->ae->Int->Int->Int->Int->Int->Int->Int->Int->ae->I7 (Op α):=fun g h i j l m o p q r s t w a b c d e=>v α a b c d e (fun z=>acV (K .normal) g h i j z l m o p q r s t w a b c d e)
theorem agE:∀ (α:Type) (K:KT α),Fu pO α K=yF.unc fun σ=>aF Pg Ek3 SZ Xi K σ:=bM (fun α K=>by kernel_rfl)
def tG:ag:=ag.sub [1,1,1,1,1,1,0,1,0,0] (ag.put (.m [⟨yF,Fu pO⟩]) [1,1,1,1,1,1,0,1,0,0,1,1,0,0,1,0] (emb Yk))
def tV (α:Type)(h:ae)(b a:Int)(kn:Int->Op α)(k1:Int->Int->Op α)(k2:Int->Bool->Op α):Op α:=
 cK (decide (a < b))
 (gq h a [.int .i64,.int .i64,.int .i64,.int .i64,.int .i64]
 (fun c d e g i=>pO α c d e g i
 (fun j=>cK j
 (k1 (w64 (a+1)) 2)
 (cK (decide (d < c))
 (k1 (w64 (a+1)) 10)
 (cK (decide (g < e))
 (k1 (w64 (a+1)) 10)
 (kn (w64 (a+1))))))))
 (k2 a (decide (a < b)))
def o7 (α:Type)(a:ae)(b:Int)(k1:Int->Int->Op α)(k2:Int->Bool->Op α):Nat->Int->Op α
 | 0,_=>none
 | n+1,c=>tV α a b c (o7 α a b k1 k2 n) k1 k2
def HV (α:Type)(a:ae)(b:Int)(k1:Int->Int->Op α)(k2:Int->Bool->Op α)(c:Int):Op α:=o7 α a b k1 k2 aN c
abbrev uM:Type 1:=(α:Type)->ae->Int->(Int->Int->Op α)->(Int->Bool->Op α)->Int->Op α
def ya:uM:=sld HV
def Ob (v:uM)(α:Type)(K:KT α):ae->Int->Int->Int->Int->Int->Int->Int->Int->ae->Int->Int->Op α:=fun c d e g h i j l m o p q=>v α c d (fun a b=>kj (K .ret) a b) (fun a b=>yG (K (.exit 0)) c d a b g h i j l m o p q) e
theorem agO (α:Type)(K:KT α)(Kn:SK α)(a:ae)(b c d e g h i j:Int)(l:ae)(m o:Int):F3 (fun σ=>aF Pg Ek3 SZ tG (di (fun σ=>bR sp σ Kn) K) σ) a b c d e g h i j l m o=tV α a b c (fun c=>F3 Kn a b c d e g h i j l m o) (fun p q=>kj (K .ret) p q) (fun p q=>yG (K (.exit 0)) a b p q d e g h i j l m o):=by kernel_rfl
theorem acp (α:Type)(K:KT α):∀ (n:Nat) (a:ae) (b c g h i j l m:Int) (o:ae) (p q:Int),o7 α a b (fun d e=>kj (K .ret) d e) (fun d e=>yG (K (.exit 0)) a b d e g h i j l m o p q) n c=F3 (aS (aF Pg Ek3 SZ tG) sp K n) a b c g h i j l m o p q:=by
 intro n
 induction n with
 | zero=>intros;rfl
 | succ n ih=>intro a b c g h i j l m o p q;exact (congrArg (fun kn=>tV α a b c kn (fun d e=>kj (K .ret) d e) (fun d e=>yG (K (.exit 0)) a b d e g h i j l m o p q)) (funext fun c=>ih a b c g h i j l m o p q)).trans (agO α K (aS (aF Pg Ek3 SZ tG) sp K n) a b c g h i j l m o p q).symm
theorem ag5:∀ (α:Type) (K:KT α),Ob ya α K=FI.unc fun σ=>aS (aF Pg Ek3 SZ tG) sp K aN σ:=bM (fun α K=>funext fun a=>funext fun b=>funext fun c=>funext fun d=>funext fun e=>funext fun g=>funext fun h=>funext fun i=>funext fun j=>funext fun l=>funext fun m=>funext fun o=>acp α K aN a b c d e g h i j l m o)
abbrev T7:Type 1:=(α:Type)->Int->Int->Int->Int->Int->Int->ae->Int->Int->(Int->Int->Op α)->Op α
def Zm (α:Type)(d e g h i j:Int)(a:ae)(l m:Int)(k1:Int->Int->Op α):Op α:=
 kJ α d
 (fun o=>cK (!o)
 (k1 0 2)
 (AB α e g
 (fun b=>cK (b != 0)
 (k1 0 b)
 (jG α h 0 1
 (fun p=>cK (!p)
 (k1 0 11)
 (BH α i j
 (fun c=>cK (c != 0)
 (k1 0 c)
 (cK (decide (40 < ((List.length a:Nat):Int)))
 (k1 0 8)
 (ya α a ((List.length a:Nat):Int)
 (fun q r=>k1 q r)
 (fun w z=>kJ α l
 (fun s=>cK (!s)
 (k1 0 2)
 (oL α m
 (fun t=>cK (!t)
 (k1 0 2)
 (k1 0 0))))) 0)))))))))
def Ct:T7:=sld Zm
def wu:PT (List DV):=pA [pV true [(dI .i64),(dI .i64),(dI .i64),(dI .i64),(dI .i64),(dI .i64),dL,(dI .i64),(dI .i64)]]
def YG (v:T7)(α:Type)(k:RT α):Int->Int->Int->Int->Int->Int->ae->Int->Int->Op α:=fun a b c d e g h i j=>v α a b c d e g h i j (fun l m=>Bj k l m)
def amj:ag:=(ag.put (.m [⟨FI,Ob ya⟩]) [1,1,1,1,1,1,0,1,0] (ag.put (.m [⟨yF,Fu pO⟩]) [1,1,1,1,1,1,0,1,0,0,1,1,0,0,1,0] (emb Yk)))
theorem aiS:al Pg 70 107 ⟨wu,YG Ct⟩:=iZ ek3 (ah Tryz.func70 (by kernel_rfl)) SZ amj ((aw _ _).trans ((aw _ _).trans (aG _))) (bJ (td:=sp) (by kernel_rfl) (aY (by kernel_rfl) (aM Yk) ⟨agE,TT⟩) ⟨ag5,TT⟩) fun _ _=>by kernel_rfl
def TH:SG:=[(20,iS 9),(21,iS 9),(22,iS 9)]
def arS:TG:=[tT 0 [0],tT 1 [0,7],tT 2 [2,3],tT 3 [0,11],tT 4 [2,3],tT 5 [15,16,17],tT 6 [15,16,17,18],tT 7 [4,5,15,16,17],tT 8 [4,6,15,16,17],tT 9 [4,6,15,16,17,25],tT 10 [2,3],tT 11 [15,16,17],tT 12 [2,3]]
def asY:TG:=[(6,⟨[15,16,17],true,[⟨false,15,0,20015,9⟩],[]⟩)]
def act:au:=aD Pg Tryz.f69 arS asY
def sw:OT:=tdC (ag.sub [1,1,0,1,0] (emb act))
def Fs:PT St:=pS [sY 15 dL,sI 16,sI 17] []
def Gr {β:Type}(g:St->β):ae->Int->Int->β:=Fs.unc g
def ady:PT St:=pS [sY 15 dL,sI 16,sI 17,sY 18 dB] []
def xG {β:Type}(g:St->β):ae->Int->Int->Bool->β:=ady.unc g
def r7:ag:=ag.sub [1,1,0,1,0,0] (emb act)
def uR (α:Type)(d:ae)(b a:Int)(kn:Int->Op α)(k1:Int->Int->Op α)(k2:Int->Bool->Op α):Op α:=
 cK (decide (a < b))
 (gq d a [.int .i64,.int .i64,.int .i64,.int .i64,.int .i64,.int .i64,.int .i64,.int .i64,.int .i64]
 (fun e g h i j l m o p=>A6 α e g h i j l m o p
 (fun c=>cK (c != 0)
 (k1 a c)
 (kn (w64 (a+1))))))
 (k2 a (decide (a < b)))
def pn (α:Type)(a:ae)(b:Int)(k1:Int->Int->Op α)(k2:Int->Bool->Op α):Nat->Int->Op α
 | 0,_=>none
 | n+1,c=>uR α a b c (pn α a b k1 k2 n) k1 k2
def I0 (α:Type)(a:ae)(b:Int)(k1:Int->Int->Op α)(k2:Int->Bool->Op α)(c:Int):Op α:=pn α a b k1 k2 aN c
def yH:uM:=sld I0
def NZ (v:uM)(α:Type)(K:KT α):ae->Int->Int->Op α:=fun c d e=>v α c d (fun a b=>kj (K .ret) a b) (fun a b=>xG (K (.exit 1)) c d a b) e
theorem agA (α:Type)(K:KT α)(Kn:SK α)(a:ae)(b c:Int):Gr (fun σ=>aF Pg Ek3 TH r7 (di (fun σ=>bR sw σ Kn) K) σ) a b c=uR α a b c (fun c=>Gr Kn a b c) (fun d e=>kj (K .ret) d e) (fun d e=>xG (K (.exit 1)) a b d e):=by kernel_rfl
theorem aet (α:Type)(K:KT α):∀ (n:Nat) (a:ae) (b c:Int),pn α a b (fun d e=>kj (K .ret) d e) (fun d e=>xG (K (.exit 1)) a b d e) n c=Gr (aS (aF Pg Ek3 TH r7) sw K n) a b c:=by
 intro n
 induction n with
 | zero=>intros;rfl
 | succ n ih=>intro a b c;exact (congrArg (fun kn=>uR α a b c kn (fun d e=>kj (K .ret) d e) (fun d e=>xG (K (.exit 1)) a b d e)) (funext fun c=>ih a b c)).trans (agA α K (aS (aF Pg Ek3 TH r7) sw K n) a b c).symm
theorem abZ:∀ (α:Type) (K:KT α),NZ yH α K=Fs.unc fun σ=>aS (aF Pg Ek3 TH r7) sw K aN σ:=bM (fun α K=>funext fun a=>funext fun b=>funext fun c=>aet α K aN a b c)
abbrev Um:Type 1:=(α:Type)->ae->(Int->Int->Op α)->Op α
def KF (α:Type)(a:ae)(k1:Int->Int->Op α):Op α:=
 cK (((List.length a:Nat):Int) == 0)
 (k1 0 12)
 (cK (decide (8 < ((List.length a:Nat):Int)))
 (k1 0 8)
 (yH α a ((List.length a:Nat):Int)
 (fun b c=>k1 b c)
 (fun d e=>k1 0 0) 0))
def Dx:Um:=sld KF
def Ww (v:Um)(α:Type)(k:RT α):ae->Op α:=fun a=>v α a (fun b c=>Bj k b c)
def ai8:ag:=(ag.put (.m [⟨Fs,NZ yH⟩]) [1,1,0,1,0] (emb act))
theorem amg:al Pg 69 29 ⟨wr,Ww Dx⟩:=iZ ek3 (ah Tryz.func69 (by kernel_rfl)) TH ai8 ((aw _ _).trans (aG _)) (bJ (td:=sw) (by kernel_rfl) (aM act) ⟨abZ,TT⟩) fun _ _=>by kernel_rfl
def vm:SG:=[(16,[.sl]),(20,[.sl]),(24,iS 3),(25,iS 3),(27,iT),(32,iT),(38,iT),(44,[.sl]),(47,[.sl]),(51,[.sl]),(55,iS 2),(56,iS 2),(57,iS 2),(64,iT),(68,[.sl]),(73,iS 2),(74,iS 2),(76,[.sl]),(78,iS 3),(79,iS 3),(82,iT),(84,iT),(86,iS 2),(88,iT),(95,[.sl]),(97,[.sl]),(101,iT)]
def atl:TG:=[tT 0 [1],tT 1 [1,18],(2,⟨[2,3],true,[⟨false,2,0,20002,5⟩],[]⟩),tT 3 [1,20,21,22],tT 4 [1,20,21,22,23],tT 5 [1,5,20,21,22],tT 6 [1,20,21,22,41],(7,⟨[2,3],true,[⟨false,2,0,20002,5⟩],[]⟩),tT 8 [1,20,21,22],tT 9 [1,49],(10,⟨[2,3],true,[⟨false,2,0,20002,5⟩],[]⟩),tT 11 [1,51,52,53],tT 12 [1,51,52,53,54],tT 13 [1,7,51,52,53],tT 14 [1,8,51,52,53],tT 15 [1,8,51,52,53,60],(16,⟨[2,3],true,[⟨false,2,0,20002,5⟩],[]⟩),tT 17 [1,51,52,53],tT 18 [1,66],(19,⟨[2,3],true,[⟨false,2,0,20002,5⟩],[]⟩),tT 20 [1,9],tT 21 [1,9,68,69,70],tT 22 [1,9,68,69,70,71],tT 23 [1,9,10,11,68,69,70],tT 24 [1,9,11,12,68,69,70],tT 25 [1,9,68,69,70],tT 26 [1,9,68,69,70],tT 27 [9,13,14],tT 28 [9,13,14,106],(29,⟨[2,3],true,[⟨false,2,0,20002,5⟩],[]⟩),(30,⟨[2,3],true,[⟨false,2,0,20002,5⟩],[]⟩)]
def asV:TG:=[(4,⟨[1,20,21,22],true,[⟨false,20,0,20020,3⟩,⟨true,1,0,30100,3⟩,⟨true,1,1,30101,2⟩,⟨true,1,3,30103,9⟩],[]⟩),(12,⟨[1,51,52,53],true,[⟨false,51,0,20051,2⟩,⟨true,1,0,30100,3⟩,⟨true,1,1,30101,2⟩,⟨true,1,3,30103,9⟩],[]⟩),(22,⟨[1,9,68,69,70],true,[⟨false,9,0,20009,5⟩,⟨false,68,0,20068,2⟩,⟨true,1,0,30100,3⟩,⟨true,1,1,30101,2⟩,⟨true,1,3,30103,9⟩],[]⟩)]
def Hq:au:=aD Pg Tryz.f24 atl asV
def tN:OT:=tdC (ag.sub [1,1,0,1,0] (emb Hq))
def uv:OT:=tdC (ag.sub [1,1,1,1,0,1,0] (emb Hq))
def uC:OT:=tdC (ag.sub [1,1,1,1,1,1,1,0,1,0] (emb Hq))
def Fd:PT St:=pS [sP 1,sY 20 dL,sI 21,sI 22] [aB 1 [(cD dL),(cD dL),xI,(cD dL),xI,xI]]
def Ew {β:Type}(g:St->β):ae->Int->Int->ae->ae->Int->ae->Int->Int->β:=Fd.unc g
def aeY:PT St:=pS [sl 2 (aV false [(cY 20002)]),sI 3] [cZ 20002 5]
def jQ {β:Type}(g:St->β):Int->ae->β:=aeY.unc g
def ae4:PT St:=pS [sP 1,sY 20 dL,sI 21,sI 22,sY 23 dB] [aB 1 [(cD dL),(cD dL),xI,(cD dL),xI,xI]]
def yi {β:Type}(g:St->β):ae->Int->Int->Bool->ae->ae->Int->ae->Int->Int->β:=ae4.unc g
def GD:PT St:=pS [sP 1,sY 51 dL,sI 52,sI 53] [aB 1 [(cD dL),(cD dL),xI,(cD dL),xI,xI]]
def Es {β:Type}(g:St->β):ae->Int->Int->ae->ae->Int->ae->Int->Int->β:=GD.unc g
def acq:PT St:=pS [sP 1,sY 51 dL,sI 52,sI 53,sY 54 dB] [aB 1 [(cD dL),(cD dL),xI,(cD dL),xI,xI]]
def yb {β:Type}(g:St->β):ae->Int->Int->Bool->ae->ae->Int->ae->Int->Int->β:=acq.unc g
def EO:PT St:=pS [sP 1,sl 9 (aV false [(cY 20009)]),sY 68 dL,sI 69,sI 70] [aB 1 [(cD dL),(cD dL),xI,(cD dL),xI,xI],cZ 20009 5]
def EQ {β:Type}(g:St->β):ae->Int->Int->ae->ae->Int->ae->Int->Int->ae->β:=EO.unc g
def adE:PT St:=pS [sP 1,sl 9 (aV false [(cY 20009)]),sY 68 dL,sI 69,sI 70,sY 71 dB] [aB 1 [(cD dL),(cD dL),xI,(cD dL),xI,xI],cZ 20009 5]
def xV {β:Type}(g:St->β):ae->Int->Int->Bool->ae->ae->Int->ae->Int->Int->ae->β:=adE.unc g
def sN:ag:=ag.sub [1,1,1,1,1,1,1,0,1,0,0] (emb Hq)
def sT (α:Type)(i:ae)(d:Int)(j:ae)(a:Int)(c:ae)(kn:Int->ae->Op α)(k1:Int->Bool->ae->Op α):Op α:=
 cK (decide (a < d))
 (gq i a [.int .i64,.int .i64]
 (fun e g=>gq j a [.int .i64,.int .i64,.int .i64]
 (fun b h l=>gK (fj 5 40 c [[DC.v (.int .i64 b),DC.v (.int .i64 b),DC.v (.int .i64 e),DC.v (.int .i64 g),DC.v (.int .i64 h)]]) (kn (w64 (a+1)) (c++[[DC.v (.int .i64 b),DC.v (.int .i64 b),DC.v (.int .i64 e),DC.v (.int .i64 g),DC.v (.int .i64 h)]])))))
 (k1 a (decide (a < d)) c)
def mD (α:Type)(a:ae)(b:Int)(c:ae)(k1:Int->Bool->ae->Op α):Nat->Int->ae->Op α
 | 0,_,_=>none
 | n+1,d,e=>sT α a b c d e (mD α a b c k1 n) k1
def H8 (α:Type)(a:ae)(b:Int)(c:ae)(k1:Int->Bool->ae->Op α)(d:Int)(e:ae):Op α:=mD α a b c k1 aN d e
abbrev Ii:Type 1:=(α:Type)->ae->Int->ae->(Int->Bool->ae->Op α)->Int->ae->Op α
def yx:Ii:=sld H8
def Nj (v:Ii)(α:Type)(K:KT α):ae->Int->Int->ae->ae->Int->ae->Int->Int->ae->Op α:=fun a b d c e g h i j l=>v α a b c (fun m o p=>xV (K (.exit 4)) a b m o c e g h i j p) d l
theorem abN (α:Type)(K:KT α)(Kn:SK α)(a:ae)(b c:Int)(d g:ae)(h:Int)(i:ae)(j l:Int)(e:ae):EQ (fun σ=>aF Pg Ek3 vm sN (di (fun σ=>bR uC σ Kn) K) σ) a b c d g h i j l e=sT α a b d c e (fun c e=>EQ Kn a b c d g h i j l e) (fun m o p=>xV (K (.exit 4)) a b m o d g h i j l p):=by kernel_rfl
theorem ach (α:Type)(K:KT α):∀ (n:Nat) (a:ae) (b d:Int) (c g:ae) (h:Int) (i:ae) (j l:Int) (e:ae),mD α a b c (fun m o p=>xV (K (.exit 4)) a b m o c g h i j l p) n d e=EQ (aS (aF Pg Ek3 vm sN) uC K n) a b d c g h i j l e:=by
 intro n
 induction n with
 | zero=>intros;rfl
 | succ n ih=>intro a b d c g h i j l e;exact (congrArg (fun kn=>sT α a b c d e kn (fun m o p=>xV (K (.exit 4)) a b m o c g h i j l p)) (funext fun d=>funext fun e=>ih a b d c g h i j l e)).trans (abN α K (aS (aF Pg Ek3 vm sN) uC K n) a b d c g h i j l e).symm
theorem aeF:∀ (α:Type) (K:KT α),Nj yx α K=EO.unc fun σ=>aS (aF Pg Ek3 vm sN) uC K aN σ:=bM (fun α K=>funext fun a=>funext fun b=>funext fun c=>funext fun d=>funext fun e=>funext fun g=>funext fun h=>funext fun i=>funext fun j=>funext fun l=>ach α K aN a b c d e g h i j l)
def se:ag:=ag.sub [1,1,1,1,0,1,0,0] (emb Hq)
def sD (α:Type)(d:ae)(b a:Int)(kn:Int->Op α)(k1:Int->Op α)(k2:Int->Bool->Op α):Op α:=
 cK (decide (a < b))
 (gq d a [.int .i64,.int .i64]
 (fun e g=>GZ α e g 0 1000000
 (fun c=>cK (c != 0)
 (k1 c)
 (kn (w64 (a+1))))))
 (k2 a (decide (a < b)))
def pZ (α:Type)(a:ae)(b:Int)(k1:Int->Op α)(k2:Int->Bool->Op α):Nat->Int->Op α
 | 0,_=>none
 | n+1,c=>sD α a b c (pZ α a b k1 k2 n) k1 k2
def GL (α:Type)(a:ae)(b:Int)(k1:Int->Op α)(k2:Int->Bool->Op α)(c:Int):Op α:=pZ α a b k1 k2 aN c
abbrev Jf:Type 1:=(α:Type)->ae->Int->(Int->Op α)->(Int->Bool->Op α)->Int->Op α
def xW:Jf:=sld GL
def QS (v:Jf)(α:Type)(K:KT α):ae->Int->Int->ae->ae->Int->ae->Int->Int->Op α:=fun b c d e g h i j l=>v α b c (fun a=>jQ (K .ret) a ([]:ae)) (fun a m=>yb (K (.exit 2)) b c a m e g h i j l) d
theorem ab9 (α:Type)(K:KT α)(Kn:SK α)(a:ae)(b c:Int)(d e:ae)(g:Int)(h:ae)(i j:Int):Es (fun σ=>aF Pg Ek3 vm se (di (fun σ=>bR uv σ Kn) K) σ) a b c d e g h i j=sD α a b c (fun c=>Es Kn a b c d e g h i j) (fun l=>jQ (K .ret) l ([]:ae)) (fun l m=>yb (K (.exit 2)) a b l m d e g h i j):=by kernel_rfl
theorem acD (α:Type)(K:KT α):∀ (n:Nat) (a:ae) (b c:Int) (e g:ae) (h:Int) (i:ae) (j l:Int),pZ α a b (fun d=>jQ (K .ret) d ([]:ae)) (fun d m=>yb (K (.exit 2)) a b d m e g h i j l) n c=Es (aS (aF Pg Ek3 vm se) uv K n) a b c e g h i j l:=by
 intro n
 induction n with
 | zero=>intros;rfl
 | succ n ih=>intro a b c e g h i j l;exact (congrArg (fun kn=>sD α a b c kn (fun d=>jQ (K .ret) d ([]:ae)) (fun d m=>yb (K (.exit 2)) a b d m e g h i j l)) (funext fun c=>ih a b c e g h i j l)).trans (ab9 α K (aS (aF Pg Ek3 vm se) uv K n) a b c e g h i j l).symm
theorem aeH:∀ (α:Type) (K:KT α),QS xW α K=GD.unc fun σ=>aS (aF Pg Ek3 vm se) uv K aN σ:=bM (fun α K=>funext fun a=>funext fun b=>funext fun c=>funext fun d=>funext fun e=>funext fun g=>funext fun h=>funext fun i=>funext fun j=>acD α K aN a b c d e g h i j)
def r5:ag:=ag.sub [1,1,0,1,0,0] (emb Hq)
def tW (α:Type)(c:ae)(b a:Int)(kn:Int->Op α)(k1:Op α)(k2:Int->Bool->Op α):Op α:=
 cK (decide (a < b))
 (gq c a [.int .i64,.int .i64,.int .i64]
 (fun d e g=>qx α d 5000 80000
 (fun h=>cK (!h)
 (k1)
 (qx α e 0 80000
 (fun i=>cK (!i)
 (k1)
 (qx α g 0 1000000
 (fun j=>cK (!j)
 (k1)
 (kn (w64 (a+1))))))))))
 (k2 a (decide (a < b)))
def o9 (α:Type)(a:ae)(b:Int)(k1:Op α)(k2:Int->Bool->Op α):Nat->Int->Op α
 | 0,_=>none
 | n+1,c=>tW α a b c (o9 α a b k1 k2 n) k1 k2
def Iq (α:Type)(a:ae)(b:Int)(k1:Op α)(k2:Int->Bool->Op α)(c:Int):Op α:=o9 α a b k1 k2 aN c
def xM:uG:=sld Iq
def OV (v:uG)(α:Type)(K:KT α):ae->Int->Int->ae->ae->Int->ae->Int->Int->Op α:=fun a b c d e g h i j=>v α a b (jQ (K .ret) 2 ([]:ae)) (fun l m=>yi (K (.exit 0)) a b l m d e g h i j) c
theorem afQ (α:Type)(K:KT α)(Kn:SK α)(a:ae)(b c:Int)(d e:ae)(g:Int)(h:ae)(i j:Int):Ew (fun σ=>aF Pg Ek3 vm r5 (di (fun σ=>bR tN σ Kn) K) σ) a b c d e g h i j=tW α a b c (fun c=>Ew Kn a b c d e g h i j) (jQ (K .ret) 2 ([]:ae)) (fun l m=>yi (K (.exit 0)) a b l m d e g h i j):=by kernel_rfl
theorem afy (α:Type)(K:KT α):∀ (n:Nat) (a:ae) (b c:Int) (d e:ae) (g:Int) (h:ae) (i j:Int),o9 α a b (jQ (K .ret) 2 ([]:ae)) (fun l m=>yi (K (.exit 0)) a b l m d e g h i j) n c=Ew (aS (aF Pg Ek3 vm r5) tN K n) a b c d e g h i j:=by
 intro n
 induction n with
 | zero=>intros;rfl
 | succ n ih=>intro a b c d e g h i j;exact (congrArg (fun kn=>tW α a b c kn (jQ (K .ret) 2 ([]:ae)) (fun l m=>yi (K (.exit 0)) a b l m d e g h i j)) (funext fun c=>ih a b c d e g h i j)).trans (afQ α K (aS (aF Pg Ek3 vm r5) tN K n) a b c d e g h i j).symm
theorem adL:∀ (α:Type) (K:KT α),OV xM α K=Fd.unc fun σ=>aS (aF Pg Ek3 vm r5) tN K aN σ:=bM (fun α K=>funext fun a=>funext fun b=>funext fun c=>funext fun d=>funext fun e=>funext fun g=>funext fun h=>funext fun i=>funext fun j=>afy α K aN a b c d e g h i j)
abbrev Uv:Type 1:=(α:Type)->ae->ae->Int->(ae->Int->Op α)->Op α
def Wj (α:Type)(a b:ae)(c:Int)(k1:ae->Int->Op α):Op α:=
 cK (decide (40 < ((List.length a:Nat):Int)))
 (k1 ([]:ae) 8)
 (xM α a ((List.length a:Nat):Int)
 (k1 ([]:ae) 2)
 (fun j l=>cK (decide (((List.length a:Nat):Int) < ((List.length b:Nat):Int)))
 (k1 ([]:ae) 12)
 (xW α b ((List.length b:Nat):Int)
 (fun h=>k1 ([]:ae) h)
 (fun m o=>qx α c 0 1000
 (fun i=>cK (!i)
 (k1 ([]:ae) 2)
 (yx α b ((List.length b:Nat):Int) a
 (fun p q d=>gK (decide ((0:Int)<=((List.length b:Nat):Int)/\((List.length b:Nat):Int)<=(((List.length a:Nat):Int):Int)/\(((List.length a:Nat):Int):Int)<=((List.length a:Nat):Int)/\cC 3 a=true)) (Jm α (List.drop (Int.toNat ((List.length b:Nat):Int)) (List.take (Int.toNat ((List.length a:Nat):Int)) a)) c
 (fun e g=>cK (g != 0)
 (k1 ([]:ae) g)
 (gK (fj 5 40 d e) (k1 (d++e) 0))))) 0 ([]:ae)))) 0)) 0)
def Cl:Uv:=sld Wj
def W5 (v:Uv)(α:Type)(k:RT α):ae->ae->Int->ae->Int->Int->Op α:=fun a b c g h i=>v α a b c (fun d e=>G4 k d e)
def ajm:ag:=(ag.put (.m [⟨Fd,OV xM⟩]) [1,1,0,1,0] (ag.put (.m [⟨GD,QS xW⟩]) [1,1,1,1,0,1,0] (ag.put (.m [⟨EO,Nj yx⟩]) [1,1,1,1,1,1,1,0,1,0] (emb Hq))))
theorem amm:al Pg 24 111 ⟨kW,W5 Cl⟩:=iZ ek3 (ah Tryz.func24 (by kernel_rfl)) vm ajm ((aw _ _).trans ((aw _ _).trans ((aw _ _).trans (aG _)))) (bJ (td:=tN) (by kernel_rfl) (bJ (td:=uv) (by kernel_rfl) (bJ (td:=uC) (by kernel_rfl) (aM Hq) ⟨aeF,TT⟩) ⟨aeH,TT⟩) ⟨adL,TT⟩) fun _ _=>by kernel_rfl
def ash:SG:=[(4,iS 2),(7,iT),(11,iS 2),(14,iT)]
def arQ:TG:=[tT 0 [1,2],tT 1 [2]]
def arO:au:=aD Pg Tryz.f87 arQ aX
noncomputable abbrev Lk4:List bz:=⟨147,6,[⟨bB,Pa mH⟩]⟩::⟨220,42,[⟨bC,Ng iC⟩]⟩::⟨143,63,[⟨fg,Q8 mL⟩]⟩::⟨176,39,[⟨fg,Mc yX⟩]⟩::⟨145,37,[⟨Ro,Qt zK⟩]⟩::⟨179,32,[⟨ed,OX AI⟩]⟩::⟨136,40,[⟨bB,LN mi⟩]⟩::⟨70,107,[⟨wu,YG Ct⟩]⟩::⟨69,29,[⟨wr,Ww Dx⟩]⟩::⟨165,32,[⟨bB,QY rg⟩]⟩::⟨24,111,[⟨kW,W5 Cl⟩]⟩::Lk3
theorem ak4:bF Lk4 fun c=>bF c.l (al Pg c.f c.nt):=⟨⟨afX,TT⟩,⟨adz,TT⟩,⟨aeN,TT⟩,⟨adi,TT⟩,⟨ab6,TT⟩,⟨ac3,TT⟩,⟨acS,TT⟩,⟨aiS,TT⟩,⟨amg,TT⟩,⟨abV,TT⟩,⟨amm,TT⟩,ak3⟩
def Ek4:aE:=aE.ofIO Lk4 bD io0
theorem ek4:Ek4.Ok Pg:=aE.ofIO_ok aO ak4
def XU (α:Type)(b c a:Int)(k1:Int->Int->Op α):Op α:=
 nZ α b c
 (fun d=>mH α b c
 (fun e=>k1 (if (w64 (d - a)) > 0 then (w64 (d - a)) else 0) (w64 (e+a))))
def Rw:pp:=sld XU
def TX (v:pp)(α:Type)(k:RT α):Int->Int->Int->Op α:=fun a b c=>v α a b c (fun d e=>de k d e)
theorem alC:al Pg 87 17 ⟨pU,TX Rw⟩:=iP ek4 arO (ah Tryz.func87 (by kernel_rfl)) ash fun _ _=>by kernel_rfl
def ZH:SG:=[(30,iT),(32,iT)]
def ao6:TG:=[tT 0 [0,2],tT 1 [0,2],tT 2 [0,2,9],tT 3 [2],tT 4 [0,2,16],tT 5 [2],tT 6 [0,2,23],tT 7 [2,3],tT 8 [2],tT 9 [2]]
def WL:au:=aD Pg Tryz.f214 ao6 aX
def PD (α:Type)(a:Int)(k1:Int->Int->Op α):Op α:=
 jq α a 4194304
 (fun b=>cK (decide (2097152<=(w64 (a - (w64 (4194304*b))))))
 (none)
 (cK (decide (1048576<=(w64 (a - (w64 (4194304*b))))))
 (none)
 (cK (decide (524288 < (w64 (a - (w64 (4194304*b))))))
 (iC α (w64 (1048576 - (w64 (a - (w64 (4194304*b))))))
 (fun c d=>k1 d c))
 (iC α (w64 (a - (w64 (4194304*b))))
 (fun e g=>k1 e g)))))
def vW:jX:=sld PD
def Nc (v:jX)(α:Type)(k:RT α):Int->Op α:=fun a=>v α a (fun b c=>de k b c)
theorem afm:al Pg 214 36 ⟨bC,Nc vW⟩:=iP ek4 WL (ah Tryz.func214 (by kernel_rfl)) ZH fun _ _=>by kernel_rfl
noncomputable abbrev Lk5:List bz:=⟨214,36,[⟨bC,Nc vW⟩]⟩::⟨87,17,[⟨pU,TX Rw⟩]⟩::Lk4
theorem ak5:bF Lk5 fun c=>bF c.l (al Pg c.f c.nt):=⟨⟨afm,TT⟩,⟨alC,TT⟩,ak4⟩
def Ek5:aE:=aE.ofIO Lk5 bD io0
theorem ek5:Ek5.Ok Pg:=aE.ofIO_ok aO ak5
def Fg (α:Type)(a:Int)(k1:Int->Int->Op α):Op α:=
 jq α a 4194304
 (fun b=>cK (decide (2097152<=(w64 (a - (w64 (4194304*b))))))
 (vW α (w64 ((w64 (a - (w64 (4194304*b)))) - 2097152))
 (fun c d=>jg α c d 2
 (fun e g=>k1 e g)))
 (cK (decide (1048576<=(w64 (a - (w64 (4194304*b))))))
 (vW α (w64 ((w64 (a - (w64 (4194304*b)))) - 1048576))
 (fun h i=>jg α h i 1
 (fun j l=>k1 j l)))
 (cK (decide (524288 < (w64 (a - (w64 (4194304*b))))))
 (iC α (w64 (1048576 - (w64 (a - (w64 (4194304*b))))))
 (fun m o=>k1 o m))
 (iC α (w64 (a - (w64 (4194304*b))))
 (fun p q=>k1 p q)))))
def rz:jX:=sld Fg
def MT (v:jX)(α:Type)(k:RT α):Int->Op α:=fun a=>v α a (fun b c=>de k b c)
theorem adA:al Pg 214 36 ⟨bC,MT rz⟩:=iP ek5 WL (ah Tryz.func214 (by kernel_rfl)) ZH fun _ _=>by kernel_rfl
def ami:aE:=aE.ofIO (⟨214,36,[⟨bC,MT rz⟩]⟩::Lk5) bD io0
theorem acT:ami.Ok Pg:=aE.ofIO_ok aO ⟨⟨adA,TT⟩,ak5⟩
def Oo (α:Type)(a:Int)(k1:Int->Int->Op α):Op α:=
 jq α a 4194304
 (fun b=>cK (decide (2097152<=(w64 (a - (w64 (4194304*b))))))
 (rz α (w64 ((w64 (a - (w64 (4194304*b)))) - 2097152))
 (fun c d=>jg α c d 2
 (fun e g=>k1 e g)))
 (cK (decide (1048576<=(w64 (a - (w64 (4194304*b))))))
 (rz α (w64 ((w64 (a - (w64 (4194304*b)))) - 1048576))
 (fun h i=>jg α h i 1
 (fun j l=>k1 j l)))
 (cK (decide (524288 < (w64 (a - (w64 (4194304*b))))))
 (iC α (w64 (1048576 - (w64 (a - (w64 (4194304*b))))))
 (fun m o=>k1 o m))
 (iC α (w64 (a - (w64 (4194304*b))))
 (fun p q=>k1 p q)))))
def zR:jX:=sld Oo
def M7 (v:jX)(α:Type)(k:RT α):Int->Op α:=fun a=>v α a (fun b c=>de k b c)
theorem agW:al Pg 214 36 ⟨bC,M7 zR⟩:=iP acT WL (ah Tryz.func214 (by kernel_rfl)) ZH fun _ _=>by kernel_rfl
def ao4:SG:=[(14,iS 2),(18,iT),(20,iS 3),(22,iS 2),(24,iS 2),(29,iT),(31,iS 2),(38,iT),(40,iS 2),(46,iT),(48,iS 2),(52,iS 2),(55,iT),(60,iT)]
def anX:TG:=[tT 0 [2,3,4],tT 1 [2,3,4,6],tT 2 [2,3,4,6,19],tT 3 [4,5],tT 4 [2,3,4,6,7],tT 5 [2,3,4,6,7,8,9],tT 6 [2,3,4,6,8,9,10,11],tT 7 [4,8,9,10,11,12],tT 8 [4,5]]
def aqA:au:=aD Pg Tryz.f173 anX aX
abbrev yP:Type 1:=(α:Type)->Int->Int->Int->Int->Int->Int->(I4 (Op α))->Op α
def Ri (α:Type)(c d h a b e:Int)(k1:I4 (Op α)):Op α:=
 nZ α a b
 (fun g=>cK (decide (g<=e))
 (k1 c d h 9)
 (ED α b
 (fun m=>vi α c d a m
 (fun o p=>jw α a b
 (fun q=>mL α o 1048576 q
 (fun i r=>jw α a b
 (fun s=>mL α p 1048576 s
 (fun j t=>mH α a b
 (fun w=>mH α c d
 (fun z=>yX α (w64 ((w64 (h*w))+(w64 (z*e)))) 1048576 (w64 ((w64 (g - e))*g))
 (fun l=>cK r
 (jf α true
 (fun A=>k1 i j (w64 (l+A)) 0))
 (jf α t
 (fun B=>k1 i j (w64 (l+B)) 0)))))))))))))
def F5:yP:=sld Ri
def L1 (v:yP)(α:Type)(k:RT α):I6 (Op α):=fun a b c d e g=>v α a b c d e g (fun h i j l=>eo k h i j l)
theorem aeZ:al Pg 173 76 ⟨j3,L1 F5⟩:=iP ek5 aqA (ah Tryz.func173 (by kernel_rfl)) ao4 fun _ _=>by kernel_rfl
def Wt:SG:=[(10,iS 2),(15,iT),(17,iS 3),(21,iT),(26,iT),(28,iT),(33,iT),(36,iS 3),(40,iT),(48,iT),(59,iT),(64,iT),(76,iT),(81,iS 2),(83,iT)]
def aqv:TG:=[tT 0 [1,2],tT 1 [1,2,4],tT 2 [1,2,4,12],tT 3 [2,3],tT 4 [1,2,4,18],tT 5 [2,3],tT 6 [1,2,4,5],tT 7 [1,2,4,5,6],tT 8 [1,2,4,5,8],tT 9 [1,2,4,5,8,60],tT 10 [1,2,4,5,6,8],tT 11 [1,2,4,5,8],tT 12 [1,2,4,5,8,77],tT 13 [1,2,4,5,8],tT 14 [2,3]]
def Ou:au:=aD Pg Tryz.f138 aqv aX
def BW:PT St:=pS [sP 1,sP 2,sI 4,sY 12 dB] [aB 1 (xs 3),aB 2 (xs 3)]
def am8 {β:Type}(g:St->β):Int->Bool->I6 β:=BW.unc g
def WR:PT St:=pS [sP 1,sP 2,sI 4,sY 18 dB] [aB 1 (xs 3),aB 2 (xs 3)]
def aaT {β:Type}(g:St->β):Int->Bool->I6 β:=WR.unc g
def AU:PT St:=pS [sP 1,sP 2,sI 4,sI 5,sP 8] [aB 1 (xs 3),aB 2 (xs 3),aB 8 [xI,xI]]
def VZ {β:Type}(g:St->β):I10 β:=AU.unc g
def Xg:PT St:=pS [sP 1,sP 2,sI 4,sI 5,sP 8,sY 77 dB] [aB 1 (xs 3),aB 2 (xs 3),aB 8 [xI,xI]]
def Yz {β:Type}(g:St->β):Int->Int->Bool->I8 β:=Xg.unc g
def Yl:PT St:=pS [sP 1,sP 2,sI 4,sI 5,sP 8,sY 60 dB] [aB 1 (xs 3),aB 2 (xs 3),aB 8 [xI,xI]]
def Ur {β:Type}(g:St->β):Int->Int->Bool->I8 β:=Yl.unc g
def SQ:ag:=ag.sub [1,1,1,1,1,1,0] (emb Ou)
abbrev Co:Type 1:=(α:Type)->Int->Int->Int->(Int->Int->Op α)->(Bool->Int->Op α)->(Bool->Op α)->Op α
def DN (α:Type)(b c a:Int)(k1:Int->Int->Op α)(k2:Bool->Int->Op α)(k3:Bool->Op α):Op α:=
 cK (decide (c < 0))
 (nW α a
 (fun e=>mL α e 1048576 (w64 (2*b))
 (fun d g=>cK (decide (a < 0))
 (k1 d (w64 (0 - b)))
 (k2 (decide (a < 0)) d))))
 (k3 (decide (c < 0)))
def oN:Co:=sld DN
def JG (v:Co)(α:Type)(K:KT α):I10 (Op α):=fun e a c d g h i j m o=>v α a c d (fun b l=>VZ (K .normal) e a c d g h i j b l) (fun b l=>Yz (K .normal) e a b c d g h i j l a) (fun b=>Ur (K .normal) e a b c d g h i j m o)
theorem aaM:∀ (α:Type) (K:KT α),JG oN α K=AU.unc fun σ=>aF Pg Ek5 Wt SQ K σ:=bM (fun α K=>by kernel_rfl)
def Tr:ag:=ag.sub [1,1,0,0,1,1,0] (emb Ou)
def Df (α:Type)(b c a:Int)(k1:Bool->Op α):Op α:=
 cK (decide (b < 0))
 (jy α c a
 (fun d=>cK d
 (k1 (a != 0))
 (k1 false)))
 (k1 false)
def sG:cW:=sld Df
def Jp (v:cW)(α:Type)(K:KT α):Int->Bool->I6 (Op α):=fun d j a b c e g h=>v α a b c (fun i=>aaT (K .normal) d i a b c e g h)
theorem Y2:∀ (α:Type) (K:KT α),Jp sG α K=BW.unc fun σ=>aF Pg Ek5 Wt Tr K σ:=bM (fun α K=>by kernel_rfl)
abbrev M1:Type 1:=(α:Type)->Int->Int->Int->(I4 (Op α))->Op α
def F1 (α:Type)(c d a:Int)(k1:I4 (Op α)):Op α:=
 nZ α c d
 (fun e=>cK (decide (e<=a))
 (k1 c d a 9)
 (sG α c d a
 (fun g=>cK g
 (k1 c d a 14)
 (nW α c
 (fun h=>eM α (w64 ((w64 (e+h))*524288))
 (fun b=>mL α d 1048576 (w64 (2*b))
 (fun i B=>oN α b c d
 (fun j l=>eM α (w64 (e*1048576))
 (fun m=>dS α (w64 (a*1048576)) m
 (fun o=>dS α 1048576 b
 (fun p=>k1 j l (w64 ((w64 (o+3))+p)) 0))))
 (fun C q=>eM α (w64 (e*1048576))
 (fun r=>dS α (w64 (a*1048576)) r
 (fun s=>dS α 1048576 b
 (fun t=>k1 q b (w64 ((w64 (s+3))+t)) 0))))
 (fun D=>eM α (w64 (e*1048576))
 (fun w=>dS α (w64 (a*1048576)) w
 (fun z=>dS α 1048576 b
 (fun A=>k1 b i (w64 ((w64 (z+3))+A)) 0)))))))))))
def rA:M1:=sld F1
def NR (v:M1)(α:Type)(k:RT α):Int->Int->Int->Op α:=fun a b c=>v α a b c (fun d e g h=>eo k d e g h)
def abT:ag:=(ag.put (.m [⟨BW,Jp sG⟩]) [1,1,0,0,1,1] (ag.put (.m [⟨AU,JG oN⟩]) [1,1,1,1,1,1] (emb Ou)))
theorem abW:al Pg 138 94 ⟨pU,NR rA⟩:=iZ ek5 (ah Tryz.func138 (by kernel_rfl)) Wt abT ((aw _ _).trans ((aw _ _).trans (aG _))) (aY (by kernel_rfl) (aY (by kernel_rfl) (aM Ou) ⟨aaM,TT⟩) ⟨Y2,TT⟩) fun _ _=>by kernel_rfl
def apn:SG:=[(12,iS 2),(14,iS 2),(18,iT),(24,iT),(32,iS 2),(35,iT),(38,iS 2),(41,iT),(45,iT),(47,iT)]
def apT:TG:=[tT 0 [2,3,4],tT 1 [2,3,4,6],tT 2 [2,3,4,6,7,8],tT 3 [2,3,4,7,8,9,10],tT 4 [4,5]]
def apL:au:=aD Pg Tryz.f169 apT aX
def Rx (α:Type)(a b c d e g:Int)(k1:Int->Int->Int->Op α):Op α:=
 vi α a b d e
 (fun l m=>mF α l 1048576
 (fun h o=>mF α m 1048576
 (fun i p=>mH α a b
 (fun q=>mH α d e
 (fun r=>dS α (w64 ((w64 ((w64 (q*g))+(w64 (r*c))))+(w64 (c*g)))) 1048576
 (fun j=>cK o
 (jf α true
 (fun s=>k1 h i (w64 (j+s))))
 (jf α p
 (fun t=>k1 h i (w64 (j+t))))))))))
def Et:fS:=sld Rx
def Nt (v:fS)(α:Type)(k:RT α):I6 (Op α):=fun a b c d e g=>v α a b c d e g (fun h i j=>eo k h i j 0)
theorem ahc:al Pg 169 58 ⟨j3,Nt Et⟩:=iP ek5 apL (ah Tryz.func169 (by kernel_rfl)) apn fun _ _=>by kernel_rfl
def aos:SG:=[(8,[.cpx .f64]),(16,iT),(20,iS 2),(22,iT)]
def asm:TG:=[tT 0 [1,2],tT 1 [1,2,4,5],tT 2 [1,2,4,5,19],tT 3 [1,2,4,5],tT 4 [2,3]]
def ajg:au:=aD Pg Tryz.f86 asm aX
def Ex:PT St:=pS [sP 1,sP 2,sP 4,sI 5] [aB 1 [(cD (dX .f64)),xI],aB 2 (xs 3),aB 4 [xI,xI]]
def adu {β:Type}(g:St->β):Int->Nat->Nat->I6 β:=Ex.unc g
def abY:PT St:=pS [sP 1,sP 2,sP 4,sI 5,sY 19 dB] [aB 1 [(cD (dX .f64)),xI],aB 2 (xs 3),aB 4 [xI,xI]]
def ahi {β:Type}(g:St->β):Int->Bool->Nat->Nat->I6 β:=abY.unc g
def afh:ag:=ag.sub [1,1,0] (emb ajg)
abbrev uQ:Type 1:=(α:Type)->Int->Int->(Op α)->(Bool->Op α)->Op α
def It (α:Type)(b c:Int)(k1:Op α)(k2:Bool->Op α):Op α:=
 cK (b == 0)
 (kM α c 0 67108864
 (fun a=>cK (!a)
 (k1)
 (k2 (!a))))
 (k2 false)
def xL:uQ:=sld It
def LW (v:uQ)(α:Type)(K:KT α):Int->Nat->Nat->I6 (Op α):=fun b c d a e g h i j=>v α b a (adu (K .normal) 2 c d a e g h i j) (fun l=>ahi (K .normal) b l c d a e g h i j)
theorem aem:∀ (α:Type) (K:KT α),LW xL α K=Ex.unc fun σ=>aF Pg Ek5 aos afh K σ:=bM (fun α K=>by kernel_rfl)
abbrev Fc:Type 1:=(α:Type)->Nat->Nat->Int->(Int->Int->Int->Op α)->Op α
def Vu (α:Type)(d e:Nat)(g:Int)(k1:Int->Int->Int->Op α):Op α:=
 zK α d e 4724276009111650304
 (fun a b c=>xL α c g
 (k1 a b 2)
 (fun h=>k1 a b c))
def iw:Fc:=sld Vu
def nw:PT (List DV):=pA [pV true [(dX .f64),(dI .i64)]]
def UM (v:Fc)(α:Type)(k:RT α):Nat->Nat->Int->Op α:=fun b c a=>v α b c a (fun d e g=>eo k d e a g)
def ajN:ag:=(ag.put (.m [⟨Ex,LW xL⟩]) [1,1] (emb ajg))
theorem alg:al Pg 86 25 ⟨nw,UM iw⟩:=iZ ek5 (ah Tryz.func86 (by kernel_rfl)) aos ajN ((aw _ _).trans (aG _)) (aY (by kernel_rfl) (aM ajg) ⟨aem,TT⟩) fun _ _=>by kernel_rfl
def aib:SG:=[(10,iT)]
def amK:TG:=[tT 0 [0,1,2,6],tT 1 [0,1,2,6,11],tT 2 [0,6],tT 3 [0,6]]
def anf:au:=aD Pg Tryz.f134 amK aX
def Rs (α:Type)(a b c:Int)(k1:Nat->Nat->Int->Int->Op α):Op α:=
 cK (a != 0)
 (k1 0 0 0 a)
 (AI α b c
 (fun d e g h=>fI α
 (k1 d e g h)))
def vS:pv:=sld Rs
def qm:PT (List DV):=pA [pV false [(dMr [(dI .i64),(dI .i64),(dI .i64),(dI .i64),(dI .i64),(dI .i64),(dI .i64),dL,(dI .i64),(dI .i64)] 0)],vI,vI]
def Oc (v:pv)(α:Type)(k:RT α):Int->Int->Int->Int->Int->Int->Int->ae->I4 (Op α):=fun a b c d e g h i j l m o=>v α a m o (fun p q r s=>dq k p q r s b c d e g h i j l)
theorem aeS:al Pg 134 20 ⟨qm,Oc vS⟩:=iP ek5 anf (ah Tryz.func134 (by kernel_rfl)) aib fun _ _=>by kernel_rfl
def aso:TG:=[tT 0 [0,1,2,6],tT 1 [0,1,2,6,11],tT 2 [0,6],tT 3 [0,6]]
def atX:au:=aD Pg Tryz.f81 aso aX
def aaZ (α:Type)(a b c:Int)(k1:Nat->Nat->Int->Int->Op α):Op α:=
 cK (a != 0)
 (k1 0 0 0 a)
 (mi α b c
 (fun d e g h=>fI α
 (k1 d e g h)))
def wY:pv:=sld aaZ
def XY (v:pv)(α:Type)(k:RT α):Int->Int->Int->Int->Int->Int->Int->ae->I4 (Op α):=fun a b c d e g h i j l m o=>v α a m o (fun p q r s=>dq k p q r s b c d e g h i j l)
theorem ajJ:al Pg 81 21 ⟨qm,XY wY⟩:=iP ek5 atX (ah Tryz.func81 (by kernel_rfl)) aib fun _ _=>by kernel_rfl
def arE:SG:=[(7,[.int .i64,.int .i64,.int .i64,.int .i64,.int .i64,.int .i64,.sl,.int .i64,.int .i64]),(11,[.int .i64,.int .i64,.int .i64,.int .i64,.int .i64,.int .i64,.sl,.int .i64,.int .i64])]
def atQ:TG:=[tT 0 [1],tT 1 [1,5],tT 2 [2,3]]
def asX:au:=aD Pg Tryz.f31 atQ aX
def Y7:PT (List RV):=pRs [pR false [rJ [(dI .i64),(dI .i64),(dI .i64),(dI .i64),(dI .i64),(dI .i64),(dI .i64),dL,(dI .i64),(dI .i64)] 0],wI]
def Uq {β:Type}(g:List RV->β):Int->Int->Int->Int->Int->Int->Int->ae->Int->Int->Int->β:=Y7.unc g
abbrev Z6:Type 1:=(α:Type)->Int->Int->Int->Int->Int->Int->ae->Int->Int->(Int->Op α)->Op α
def UD (α:Type)(a b c d e g:Int)(h:ae)(i j:Int)(k1:Int->Op α):Op α:=
 Ct α a b c d e g h i j
 (fun m l=>k1 l)
def O1:Z6:=sld UD
def Yt (v:Z6)(α:Type)(k:RT α):Int->Int->Int->Int->Int->Int->ae->Int->Int->Op α:=fun a b c d e g h i j=>v α a b c d e g h i j (fun l=>Uq k 0 a b c d e g h i j l)
theorem aj4:al Pg 31 15 ⟨wu,Yt O1⟩:=iP ek5 asX (ah Tryz.func31 (by kernel_rfl)) arE fun _ _=>by kernel_rfl
end
end Go.AM.K
