/- Printed by KGen. -/
import Derived.Test.YtffcelhcekillaaGreatRd
namespace Go.AM.K
open Go.Proofs
set_option maxRecDepth 100000
set_option linter.unusedVariables false
noncomputable section
def xP:SG:=[(16,[.sl]),(20,[.sl]),(24,iS 3),(25,iS 3),(27,iT),(32,iT),(38,iT),(44,[.sl]),(47,[.sl]),(51,[.sl]),(55,iS 2),(56,iS 2),(57,iS 2),(64,iT),(68,[.sl]),(73,iS 2),(74,iS 2),(76,[.sl]),(78,iS 3),(79,iS 3),(82,iT),(84,iT),(86,iS 2),(88,iT),(95,[.sl]),(97,[.sl]),(101,iT)]
def aJo:TG:=[tT 0 [1],tT 1 [1,18],(2,⟨[2,3],true,[⟨false,2,0,20002,5⟩],[]⟩),tT 3 [1,20,21,22],tT 4 [1,20,21,22,23],tT 5 [1,5,20,21,22],tT 6 [1,20,21,22,41],(7,⟨[2,3],true,[⟨false,2,0,20002,5⟩],[]⟩),tT 8 [1,20,21,22],tT 9 [1,49],(10,⟨[2,3],true,[⟨false,2,0,20002,5⟩],[]⟩),tT 11 [1,51,52,53],tT 12 [1,51,52,53,54],tT 13 [1,7,51,52,53],tT 14 [1,8,51,52,53],tT 15 [1,8,51,52,53,60],(16,⟨[2,3],true,[⟨false,2,0,20002,5⟩],[]⟩),tT 17 [1,51,52,53],tT 18 [1,66],(19,⟨[2,3],true,[⟨false,2,0,20002,5⟩],[]⟩),tT 20 [1,9],tT 21 [1,9,68,69,70],tT 22 [1,9,68,69,70,71],tT 23 [1,9,10,11,68,69,70],tT 24 [1,9,11,12,68,69,70],tT 25 [1,9,68,69,70],tT 26 [1,9,68,69,70],tT 27 [9,13,14],tT 28 [9,13,14,106],(29,⟨[2,3],true,[⟨false,2,0,20002,5⟩],[]⟩),(30,⟨[2,3],true,[⟨false,2,0,20002,5⟩],[]⟩)]
def aJG:TG:=[(4,⟨[1,20,21,22],true,[⟨false,20,0,20020,3⟩,⟨true,1,0,30100,3⟩,⟨true,1,1,30101,2⟩,⟨true,1,3,30103,9⟩],[]⟩),(12,⟨[1,51,52,53],true,[⟨false,51,0,20051,2⟩,⟨true,1,0,30100,3⟩,⟨true,1,1,30101,2⟩,⟨true,1,3,30103,9⟩],[]⟩),(22,⟨[1,9,68,69,70],true,[⟨false,9,0,20009,5⟩,⟨false,68,0,20068,2⟩,⟨true,1,0,30100,3⟩,⟨true,1,1,30101,2⟩,⟨true,1,3,30103,9⟩],[]⟩)]
def Ou:ap:=aw Pg Tryz.f14 aJo aJG
def sB:OT:=tdC (ag.sub [1,1,0,1,0] (emb Ou))
def ta:OT:=tdC (ag.sub [1,1,1,1,0,1,0] (emb Ou))
def wF:OT:=tdC (ag.sub [1,1,1,1,1,1,1,0,1,0] (emb Ou))
def Js:PT St:=pS [sP 1,sl 20 (aV false [(cD dL)]),sI 21,sI 22] [au 1 [(cD dL),(cD dL),xI,(cD dL),xI,xI]]
def Jm {β:Type}(g:St->β):ae->Int->Int->ae->ae->Int->ae->Int->Int->β:=Js.unc g
def aua:PT St:=pS [sP 1,sl 20 (aV false [(cD dL)]),sI 21,sI 22,sl 23 (aV false [(cD dB)])] [au 1 [(cD dL),(cD dL),xI,(cD dL),xI,xI]]
def Ae {β:Type}(g:St->β):ae->Int->Int->Bool->ae->ae->Int->ae->Int->Int->β:=aua.unc g
def J5:PT St:=pS [sP 1,sl 51 (aV false [(cD dL)]),sI 52,sI 53] [au 1 [(cD dL),(cD dL),xI,(cD dL),xI,xI]]
def Jv {β:Type}(g:St->β):ae->Int->Int->ae->ae->Int->ae->Int->Int->β:=J5.unc g
def arS:PT St:=pS [sP 1,sl 51 (aV false [(cD dL)]),sI 52,sI 53,sl 54 (aV false [(cD dB)])] [au 1 [(cD dL),(cD dL),xI,(cD dL),xI,xI]]
def Au {β:Type}(g:St->β):ae->Int->Int->Bool->ae->ae->Int->ae->Int->Int->β:=arS.unc g
def HN:PT St:=pS [sP 1,sl 9 (aV false [(dz 20009)]),sl 68 (aV false [(cD dL)]),sI 69,sI 70] [au 1 [(cD dL),(cD dL),xI,(cD dL),xI,xI],dA 20009 5]
def Kf {β:Type}(g:St->β):ae->Int->Int->ae->ae->Int->ae->Int->Int->ae->β:=HN.unc g
def aty:PT St:=pS [sP 1,sl 9 (aV false [(dz 20009)]),sl 68 (aV false [(cD dL)]),sI 69,sI 70,sl 71 (aV false [(cD dB)])] [au 1 [(cD dL),(cD dL),xI,(cD dL),xI,xI],dA 20009 5]
def Aw {β:Type}(g:St->β):ae->Int->Int->Bool->ae->ae->Int->ae->Int->Int->ae->β:=aty.unc g
def uN:ag:=ag.sub [1,1,1,1,1,1,1,0,1,0,0] (emb Ou)
def t8 (α:Type)(i:ae)(d:Int)(j:ae)(a:Int)(c:ae)(kn:Int->ae->Op α)(k1:Int->Bool->ae->Op α):Op α:=
 cK (decide (a < d))
 (dE i a [.int .i64,.int .i64]
 (fun e g=>dE j a [.int .i64,.int .i64,.int .i64]
 (fun b h l=>gK (cj 5 40 c [[DC.v (.int .i64 b),DC.v (.int .i64 b),DC.v (.int .i64 e),DC.v (.int .i64 g),DC.v (.int .i64 h)]]) (kn (w64 (a+1)) (c++[[DC.v (.int .i64 b),DC.v (.int .i64 b),DC.v (.int .i64 e),DC.v (.int .i64 g),DC.v (.int .i64 h)]])))))
 (k1 a (decide (a < d)) c)
def mU (α:Type)(a:ae)(b:Int)(c:ae)(k1:Int->Bool->ae->Op α):Nat->Int->ae->Op α
 | 0,_,_=>none
 | n+1,d,e=>t8 α a b c d e (mU α a b c k1 n) k1
def N7 (α:Type)(a:ae)(b:Int)(c:ae)(k1:Int->Bool->ae->Op α)(d:Int)(e:ae):Op α:=mU α a b c k1 aG d e
abbrev LW:Type 1:=(α:Type)->ae->Int->ae->(Int->Bool->ae->Op α)->Int->ae->Op α
def zV:LW:=sld N7
def UI (v:LW)(α:Type)(K:KT α):ae->Int->Int->ae->ae->Int->ae->Int->Int->ae->Op α:=fun a b d c e g h i j l=>v α a b c (fun m o p=>Aw (K (.exit 4)) a b m o c e g h i j p) d l
theorem apE (α:Type)(K:KT α)(Kn:SK α)(a:ae)(b c:Int)(d g:ae)(h:Int)(i:ae)(j l:Int)(e:ae):Kf (fun σ=>az Pg Ek4 xP uN (bM (fun σ=>br wF σ Kn) K) σ) a b c d g h i j l e=t8 α a b d c e (fun c e=>Kf Kn a b c d g h i j l e) (fun m o p=>Aw (K (.exit 4)) a b m o d g h i j l p):=by kernel_rfl
theorem asC (α:Type)(K:KT α):∀ (n:Nat) (a:ae) (b d:Int) (c g:ae) (h:Int) (i:ae) (j l:Int) (e:ae),mU α a b c (fun m o p=>Aw (K (.exit 4)) a b m o c g h i j l p) n d e=Kf (aK (az Pg Ek4 xP uN) wF K n) a b d c g h i j l e:=by
 intro n
 induction n with
 | zero=>intros;rfl
 | succ n ih=>intro a b d c g h i j l e;exact (congrArg (fun kn=>t8 α a b c d e kn (fun m o p=>Aw (K (.exit 4)) a b m o c g h i j l p)) (funext fun d=>funext fun e=>ih a b d c g h i j l e)).trans (apE α K (aK (az Pg Ek4 xP uN) wF K n) a b d c g h i j l e).symm
theorem asM:∀ (α:Type) (K:KT α),UI zV α K=HN.unc fun σ=>aK (az Pg Ek4 xP uN) wF K aG σ:=aY (fun α K=>funext fun a=>funext fun b=>funext fun c=>funext fun d=>funext fun e=>funext fun g=>funext fun h=>funext fun i=>funext fun j=>funext fun l=>asC α K aG a b c d e g h i j l)
def wm:ag:=ag.sub [1,1,1,1,0,1,0,0] (emb Ou)
def v5 (α:Type)(d:ae)(b a:Int)(kn:Int->Op α)(k1:Int->Op α)(k2:Int->Bool->Op α):Op α:=
 cK (decide (a < b))
 (dE d a [.int .i64,.int .i64]
 (fun e g=>OA α e g 0 1000000
 (fun c=>cK (c != 0)
 (k1 c)
 (kn (w64 (a+1))))))
 (k2 a (decide (a < b)))
def qO (α:Type)(a:ae)(b:Int)(k1:Int->Op α)(k2:Int->Bool->Op α):Nat->Int->Op α
 | 0,_=>none
 | n+1,c=>v5 α a b c (qO α a b k1 k2 n) k1 k2
def K4 (α:Type)(a:ae)(b:Int)(k1:Int->Op α)(k2:Int->Bool->Op α)(c:Int):Op α:=qO α a b k1 k2 aG c
abbrev L7:Type 1:=(α:Type)->ae->Int->(Int->Op α)->(Int->Bool->Op α)->Int->Op α
def AL:L7:=sld K4
def WU (v:L7)(α:Type)(K:KT α):ae->Int->Int->ae->ae->Int->ae->Int->Int->Op α:=fun b c d e g h i j l=>v α b c (fun a=>cV (K .ret) a ([]:ae)) (fun a m=>Au (K (.exit 2)) b c a m e g h i j l) d
theorem aqT (α:Type)(K:KT α)(Kn:SK α)(a:ae)(b c:Int)(d e:ae)(g:Int)(h:ae)(i j:Int):Jv (fun σ=>az Pg Ek4 xP wm (bM (fun σ=>br ta σ Kn) K) σ) a b c d e g h i j=v5 α a b c (fun c=>Jv Kn a b c d e g h i j) (fun l=>cV (K .ret) l ([]:ae)) (fun l m=>Au (K (.exit 2)) a b l m d e g h i j):=by kernel_rfl
theorem auh (α:Type)(K:KT α):∀ (n:Nat) (a:ae) (b c:Int) (e g:ae) (h:Int) (i:ae) (j l:Int),qO α a b (fun d=>cV (K .ret) d ([]:ae)) (fun d m=>Au (K (.exit 2)) a b d m e g h i j l) n c=Jv (aK (az Pg Ek4 xP wm) ta K n) a b c e g h i j l:=by
 intro n
 induction n with
 | zero=>intros;rfl
 | succ n ih=>intro a b c e g h i j l;exact (congrArg (fun kn=>v5 α a b c kn (fun d=>cV (K .ret) d ([]:ae)) (fun d m=>Au (K (.exit 2)) a b d m e g h i j l)) (funext fun c=>ih a b c e g h i j l)).trans (aqT α K (aK (az Pg Ek4 xP wm) ta K n) a b c e g h i j l).symm
theorem anL:∀ (α:Type) (K:KT α),WU AL α K=J5.unc fun σ=>aK (az Pg Ek4 xP wm) ta K aG σ:=aY (fun α K=>funext fun a=>funext fun b=>funext fun c=>funext fun d=>funext fun e=>funext fun g=>funext fun h=>funext fun i=>funext fun j=>auh α K aG a b c d e g h i j)
def tK:ag:=ag.sub [1,1,0,1,0,0] (emb Ou)
def uM (α:Type)(c:ae)(b a:Int)(kn:Int->Op α)(k1:Op α)(k2:Int->Bool->Op α):Op α:=
 cK (decide (a < b))
 (dE c a [.int .i64,.int .i64,.int .i64]
 (fun d e g=>rj α d 5000 80000
 (fun h=>cK (!h)
 (k1)
 (rj α e 0 80000
 (fun i=>cK (!i)
 (k1)
 (rj α g 0 1000000
 (fun j=>cK (!j)
 (k1)
 (kn (w64 (a+1))))))))))
 (k2 a (decide (a < b)))
def qC (α:Type)(a:ae)(b:Int)(k1:Op α)(k2:Int->Bool->Op α):Nat->Int->Op α
 | 0,_=>none
 | n+1,c=>uM α a b c (qC α a b k1 k2 n) k1 k2
def NT (α:Type)(a:ae)(b:Int)(k1:Op α)(k2:Int->Bool->Op α)(c:Int):Op α:=qC α a b k1 k2 aG c
def AE:wg:=sld NT
def Xl (v:wg)(α:Type)(K:KT α):ae->Int->Int->ae->ae->Int->ae->Int->Int->Op α:=fun a b c d e g h i j=>v α a b (cV (K .ret) 2 ([]:ae)) (fun l m=>Ae (K (.exit 0)) a b l m d e g h i j) c
theorem anH (α:Type)(K:KT α)(Kn:SK α)(a:ae)(b c:Int)(d e:ae)(g:Int)(h:ae)(i j:Int):Jm (fun σ=>az Pg Ek4 xP tK (bM (fun σ=>br sB σ Kn) K) σ) a b c d e g h i j=uM α a b c (fun c=>Jm Kn a b c d e g h i j) (cV (K .ret) 2 ([]:ae)) (fun l m=>Ae (K (.exit 0)) a b l m d e g h i j):=by kernel_rfl
theorem aoB (α:Type)(K:KT α):∀ (n:Nat) (a:ae) (b c:Int) (d e:ae) (g:Int) (h:ae) (i j:Int),qC α a b (cV (K .ret) 2 ([]:ae)) (fun l m=>Ae (K (.exit 0)) a b l m d e g h i j) n c=Jm (aK (az Pg Ek4 xP tK) sB K n) a b c d e g h i j:=by
 intro n
 induction n with
 | zero=>intros;rfl
 | succ n ih=>intro a b c d e g h i j;exact (congrArg (fun kn=>uM α a b c kn (cV (K .ret) 2 ([]:ae)) (fun l m=>Ae (K (.exit 0)) a b l m d e g h i j)) (funext fun c=>ih a b c d e g h i j)).trans (anH α K (aK (az Pg Ek4 xP tK) sB K n) a b c d e g h i j).symm
theorem auK:∀ (α:Type) (K:KT α),Xl AE α K=Js.unc fun σ=>aK (az Pg Ek4 xP tK) sB K aG σ:=aY (fun α K=>funext fun a=>funext fun b=>funext fun c=>funext fun d=>funext fun e=>funext fun g=>funext fun h=>funext fun i=>funext fun j=>aoB α K aG a b c d e g h i j)
def adH (α:Type)(a b:ae)(c:Int)(k1:ae->Int->Op α):Op α:=
 cK (decide (40 < ((List.length a:Nat):Int)))
 (k1 ([]:ae) 8)
 (AE α a ((List.length a:Nat):Int)
 (k1 ([]:ae) 2)
 (fun j l=>cK (decide (((List.length a:Nat):Int) < ((List.length b:Nat):Int)))
 (k1 ([]:ae) 12)
 (AL α b ((List.length b:Nat):Int)
 (fun h=>k1 ([]:ae) h)
 (fun m o=>rj α c 0 1000
 (fun i=>cK (!i)
 (k1 ([]:ae) 2)
 (zV α b ((List.length b:Nat):Int) a
 (fun p q d=>gK (decide ((0:Int)<=((List.length b:Nat):Int)/\((List.length b:Nat):Int)<=(((List.length a:Nat):Int):Int)/\(((List.length a:Nat):Int):Int)<=((List.length a:Nat):Int)/\eS 3 a=true)) (KU α (List.drop (Int.toNat ((List.length b:Nat):Int)) (List.take (Int.toNat ((List.length a:Nat):Int)) a)) c
 (fun e g=>cK (g != 0)
 (k1 ([]:ae) g)
 (gK (cj 5 40 d e) (k1 (d++e) 0))))) 0 ([]:ae)))) 0)) 0)
def BI:KG:=sld adH
def agf (v:KG)(α:Type)(k:RT α):ae->ae->Int->ae->Int->Int->Op α:=fun a b c g h i=>v α a b c (fun d e=>Cs k d e)
def awU:ag:=(ag.put (.m [⟨Js,Xl AE⟩]) [1,1,0,1,0] (ag.put (.m [⟨J5,WU AL⟩]) [1,1,1,1,0,1,0] (ag.put (.m [⟨HN,UI zV⟩]) [1,1,1,1,1,1,1,0,1,0] (emb Ou))))
theorem axQ:ak Pg 14 111 ⟨fx,agf BI⟩:=iZ ek4 (ah Tryz.func14 (by kernel_rfl)) xP awU ((an _ _).trans ((an _ _).trans ((an _ _).trans (aA _)))) (aZ (td:=sB) (by kernel_rfl) (aZ (td:=ta) (by kernel_rfl) (aZ (td:=wF) (by kernel_rfl) (aD Ou) ⟨asM,trivial⟩) ⟨anL,trivial⟩) ⟨auK,trivial⟩) fun _ _=>by kernel_rfl
def aE5:SG:=[(4,iS 3),(7,iT),(9,iT),(13,iT),(15,iT)]
def aCw:TG:=[tT 0 [1,2],tT 1 [2,3],tT 2 [2]]
def aB5:ap:=aw Pg Tryz.f176 aCw aC
noncomputable abbrev Lk5:List bE:=⟨212,15,[⟨cX,WN H9⟩]⟩::⟨241,92,[⟨dY,Tq BW⟩]⟩::⟨249,37,[⟨ba,VL g6⟩]⟩::⟨267,25,[⟨dY,U8 C9⟩]⟩::⟨266,70,[⟨dY,XM EE⟩]⟩::⟨265,25,[⟨dY,U6 Df⟩]⟩::⟨72,27,[⟨ox,acO M8⟩]⟩::⟨73,37,[⟨alM,akd G1⟩]⟩::⟨204,6,[⟨ba,QE mE⟩]⟩::⟨282,42,[⟨aU,T5 iy⟩]⟩::⟨200,63,[⟨eT,VX mK⟩]⟩::⟨226,39,[⟨eT,XX Ci⟩]⟩::⟨202,37,[⟨R8,WK BO⟩]⟩::⟨229,32,[⟨bq,Un BY⟩]⟩::⟨193,40,[⟨ba,Xg mV⟩]⟩::⟨93,107,[⟨eW,alX Ga⟩]⟩::⟨92,29,[⟨ox,ade GT⟩]⟩::⟨283,73,[⟨ba,Yd xG⟩]⟩::⟨284,45,[⟨ba,Tl r6⟩]⟩::⟨270,30,[⟨bq,VU yj⟩]⟩::⟨210,95,[⟨cX,VN xr⟩]⟩::⟨215,32,[⟨ba,Yh su⟩]⟩::⟨14,111,[⟨fx,agf BI⟩]⟩::Lk4
theorem ak5:bJ Lk5 fun c=>bJ c.l (ak Pg c.f c.nt):=⟨⟨apI,trivial⟩,⟨amx,trivial⟩,⟨aqS,trivial⟩,⟨aqh,trivial⟩,⟨arn,trivial⟩,⟨anY,trivial⟩,⟨ayi,trivial⟩,⟨ays,trivial⟩,⟨amK,trivial⟩,⟨ap0,trivial⟩,⟨asG,trivial⟩,⟨anT,trivial⟩,⟨auL,trivial⟩,⟨amk,trivial⟩,⟨au0,trivial⟩,⟨ayJ,trivial⟩,⟨ay1,trivial⟩,⟨amj,trivial⟩,⟨ats,trivial⟩,⟨ap3,trivial⟩,⟨apx,trivial⟩,⟨ary,trivial⟩,⟨axQ,trivial⟩,ak4⟩
def Ek5:aE:=aE.ofIO Lk5 bw io0
theorem ek5:Ek5.Ok Pg:=aE.ofIO_ok aO ak5
def Zl (α:Type)(c d e:Int)(k1:Int->Int->Op α):Op α:=
 H9 α c d e
 (fun a b=>dC α (w64 (a*a)) 1048576
 (fun g=>cy α (w64 (b*b)) 1048576
 (fun h=>k1 g h)))
def yL:fU:=sld Zl
def YA (v:fU)(α:Type)(k:RT α):Int->Int->Int->Op α:=fun a b c=>v α a b c (fun d e=>bt k d e)
theorem auQ:ak Pg 176 19 ⟨cX,YA yL⟩:=iP ek5 aB5 (ah Tryz.func176 (by kernel_rfl)) aE5 fun _ _=>by kernel_rfl
def SY:SG:=[(10,iT),(14,iS 3),(15,iS 3)]
def aCT:TG:=[tT 0 [0,4,5,6],tT 1 [0,4,5,6,11],tT 2 [0,6],tT 3 [0,6]]
def aHU:ap:=aw Pg Tryz.f206 aCT aC
abbrev kF:Type 1:=(α:Type)->Int->Int->Int->Int->Int->Int->Int->(I4 (Op α))->Op α
def RA (α:Type)(a b c d e g h:Int)(k1:I4 (Op α)):Op α:=
 cK (a != 0)
 (k1 0 0 0 a)
 (BW α b c d e g h
 (fun i j l m=>du α a i j l m
 (fun o p q r=>k1 o p q r)))
def kZ:kF:=sld RA
def hI:PT (List DV):=pA [pV false [(dMr [(dI .i64)] 0)],pV true [(dI .i64),(dI .i64),(dI .i64)],pV true [(dI .i64),(dI .i64),(dI .i64)]]
def Qp (v:kF)(α:Type)(k:RT α):I7 (Op α):=fun a b c d e g h=>v α a b c d e g h (fun i j l m=>ed k i j l m)
theorem auW:ak Pg 206 20 ⟨hI,Qp kZ⟩:=iP ek5 aHU (ah Tryz.func206 (by kernel_rfl)) SY fun _ _=>by kernel_rfl
def aFt:SG:=[(9,iS 2),(18,iT),(21,iT),(25,iT),(33,iT),(38,iT),(43,iT),(51,iS 3)]
def aDN:TG:=[tT 0 [1,2],tT 1 [1,2,5],tT 2 [1,2,5,14],tT 3 [2,3],tT 4 [1,2,19],tT 5 [2,3],tT 6 [1,2,34],tT 7 [2,3],tT 8 [2,6,7],tT 9 [2,3]]
def aBt:ap:=aw Pg Tryz.f211 aDN aC
def Zj (α:Type)(a b:Int)(k1:I4 (Op α)):Op α:=
 g6 α a b
 (fun w z A c=>cK (c != 0)
 (k1 0 0 0 c)
 (cK (decide (0<=a))
 (dj α (w64 (a*1048576))
 (fun d=>n6 α (w64 (b*1048576))
 (fun e=>g6 α d e
 (fun g h i j=>k1 g h i j))))
 (cK (decide (0 < b))
 (k1 0 0 0 14)
 (dj α (w64 ((w64 (0 - b))*1048576))
 (fun l=>n6 α (w64 ((w64 (0 - a))*1048576))
 (fun m=>g6 α l m
 (fun o p q r=>rA α o p 1
 (fun s t=>k1 s t q r))))))))
def xy:kj:=sld Zj
def RE (v:kj)(α:Type)(k:RT α):Int->Int->Op α:=fun a b=>v α a b (fun c d e g=>bD k c d e g)
theorem an6:ak Pg 211 54 ⟨ba,RE xy⟩:=iP ek5 aBt (ah Tryz.func211 (by kernel_rfl)) aFt fun _ _=>by kernel_rfl
def aDS:TG:=[tT 0 [0,4,5,6],tT 1 [0,4,5,6,11],tT 2 [0,6],tT 3 [0,6]]
def aFx:ap:=aw Pg Tryz.f240 aDS aC
def V6 (α:Type)(a b c d e g h:Int)(k1:I4 (Op α)):Op α:=
 cK (a != 0)
 (k1 0 0 0 a)
 (C9 α b c d e g h
 (fun i j l m=>du α a i j l m
 (fun o p q r=>k1 o p q r)))
def mu:kF:=sld V6
def YF (v:kF)(α:Type)(k:RT α):I7 (Op α):=fun a b c d e g h=>v α a b c d e g h (fun i j l m=>ed k i j l m)
theorem apZ:ak Pg 240 20 ⟨hI,YF mu⟩:=iP ek5 aFx (ah Tryz.func240 (by kernel_rfl)) SY fun _ _=>by kernel_rfl
def aDl:TG:=[tT 0 [0,4,5,6],tT 1 [0,4,5,6,11],tT 2 [0,6],tT 3 [0,6]]
def aBD:ap:=aw Pg Tryz.f239 aDl aC
def U9 (α:Type)(a b c d e g h:Int)(k1:I4 (Op α)):Op α:=
 cK (a != 0)
 (k1 0 0 0 a)
 (EE α b c d e g h
 (fun i j l m=>du α a i j l m
 (fun o p q r=>k1 o p q r)))
def ci:kF:=sld U9
def Tu (v:kF)(α:Type)(k:RT α):I7 (Op α):=fun a b c d e g h=>v α a b c d e g h (fun i j l m=>ed k i j l m)
theorem aqZ:ak Pg 239 20 ⟨hI,Tu ci⟩:=iP ek5 aBD (ah Tryz.func239 (by kernel_rfl)) SY fun _ _=>by kernel_rfl
def aDI:SG:=[(8,iT),(11,iT),(14,iT),(17,iT)]
def aCx:TG:=[tT 0 [0,3,4],tT 1 [0,4,5,6],tT 2 [0,4]]
def aH2:ap:=aw Pg Tryz.f243 aCx aC
def SH (α:Type)(b a c d:Int)(k1:I4 (Op α)):Op α:=
 dC α (w64 ((w64 (a*c))*1048576)) 100000000
 (fun e=>cy α (w64 ((w64 (a*d))*1048576)) 100000000
 (fun g=>g6 α e g
 (fun h i j l=>du α b h i j l
 (fun m o p q=>k1 m o p q))))
def Du:AH:=sld SH
def QK:PT (List DV):=pA [pV false [(dMr [(dI .i64)] 0)],pV true [(dI .i64),(dI .i64),(dI .i64),(dI .i64),(dI .i64),(dI .i64),dL,(dI .i64),(dI .i64)]]
def Vs (v:AH)(α:Type)(k:RT α):Int->Int->Int->Int->Int->Int->Int->ae->Int->Int->Op α:=fun a b c d j l m o p q=>v α a b c d (fun e g h i=>ed k e g h i)
theorem arc:ak Pg 243 31 ⟨QK,Vs Du⟩:=iP ek5 aH2 (ah Tryz.func243 (by kernel_rfl)) aDI fun _ _=>by kernel_rfl
def aFu:TG:=[tT 0 [0,4,5,6],tT 1 [0,4,5,6,11],tT 2 [0,6],tT 3 [0,6]]
def aAa:ap:=aw Pg Tryz.f238 aFu aC
def Vt (α:Type)(a b c d e g h:Int)(k1:I4 (Op α)):Op α:=
 cK (a != 0)
 (k1 0 0 0 a)
 (Df α b c d e g h
 (fun i j l m=>du α a i j l m
 (fun o p q r=>k1 o p q r)))
def eB:kF:=sld Vt
def UL (v:kF)(α:Type)(k:RT α):I7 (Op α):=fun a b c d e g h=>v α a b c d e g h (fun i j l m=>ed k i j l m)
theorem aoA:ak Pg 238 20 ⟨hI,UL eB⟩:=iP ek5 aAa (ah Tryz.func238 (by kernel_rfl)) SY fun _ _=>by kernel_rfl
def aIM:SG:=[(10,[.sl]),(20,[.sl]),(22,iS 2)]
def aID:TG:=[tT 0 [1],tT 1 [1,4,5],tT 2 [1,4,5,15],tT 3 [2,3],tT 4 [7],tT 5 [2,3]]
def aKr:ap:=aw Pg Tryz.f36 aID aC
abbrev Kv:Type 1:=(α:Type)->ae->ae->Int->Int->(Int->Int->Op α)->Op α
def ah9 (α:Type)(b c:ae)(d e:Int)(k1:Int->Int->Op α):Op α:=
 M8 α b
 (fun g a=>cK (a != 0)
 (k1 g a)
 (G1 α c d e
 (fun i h=>k1 0 h)))
def M3:Kv:=sld ah9
def kQ:PT (List DV):=pA [pV true [dL,dL,(dI .i64),(dI .i64)]]
def akM (v:Kv)(α:Type)(k:RT α):ae->ae->Int->Int->Op α:=fun a b c d=>v α a b c d (fun e g=>g8 k e g)
theorem ay6:ak Pg 36 27 ⟨kQ,akM M3⟩:=iP ek5 aKr (ah Tryz.func36 (by kernel_rfl)) aIM fun _ _=>by kernel_rfl
def aB0:SG:=[(4,iS 2),(7,iT),(11,iS 2),(14,iT)]
def aEU:TG:=[tT 0 [1,2],tT 1 [2]]
def aDE:ap:=aw Pg Tryz.f166 aEU aC
def W4 (α:Type)(b c a:Int)(k1:Int->Int->Op α):Op α:=
 nR α b c
 (fun d=>mE α b c
 (fun e=>k1 (if (w64 (d - a)) > 0 then (w64 (d - a)) else 0) (w64 (e+a))))
def JV:fU:=sld W4
def WT (v:fU)(α:Type)(k:RT α):Int->Int->Int->Op α:=fun a b c=>v α a b c (fun d e=>bt k d e)
theorem am0:ak Pg 166 17 ⟨cX,WT JV⟩:=iP ek5 aDE (ah Tryz.func166 (by kernel_rfl)) aB0 fun _ _=>by kernel_rfl
def al7:SG:=[(30,iT),(32,iT)]
def aFQ:TG:=[tT 0 [0,2],tT 1 [0,2],tT 2 [0,2,9],tT 3 [2],tT 4 [0,2,16],tT 5 [2],tT 6 [0,2,23],tT 7 [2,3],tT 8 [2],tT 9 [2]]
def akI:ap:=aw Pg Tryz.f274 aFQ aC
def Vf (α:Type)(a:Int)(k1:Int->Int->Op α):Op α:=
 fV α a 4194304
 (fun b=>cK (decide (2097152<=(w64 (a - (w64 (4194304*b))))))
 (none)
 (cK (decide (1048576<=(w64 (a - (w64 (4194304*b))))))
 (none)
 (cK (decide (524288 < (w64 (a - (w64 (4194304*b))))))
 (iy α (w64 (1048576 - (w64 (a - (w64 (4194304*b))))))
 (fun c d=>k1 d c))
 (iy α (w64 (a - (w64 (4194304*b))))
 (fun e g=>k1 e g)))))
def xQ:ea:=sld Vf
def SF (v:ea)(α:Type)(k:RT α):Int->Op α:=fun a=>v α a (fun b c=>bt k b c)
theorem aue:ak Pg 274 36 ⟨aU,SF xQ⟩:=iP ek5 akI (ah Tryz.func274 (by kernel_rfl)) al7 fun _ _=>by kernel_rfl
noncomputable abbrev Lk6:List bE:=⟨274,36,[⟨aU,SF xQ⟩]⟩::⟨239,20,[⟨hI,Tu ci⟩]⟩::⟨238,20,[⟨hI,UL eB⟩]⟩::⟨240,20,[⟨hI,YF mu⟩]⟩::⟨206,20,[⟨hI,Qp kZ⟩]⟩::⟨166,17,[⟨cX,WT JV⟩]⟩::⟨243,31,[⟨QK,Vs Du⟩]⟩::⟨211,54,[⟨ba,RE xy⟩]⟩::⟨176,19,[⟨cX,YA yL⟩]⟩::⟨36,27,[⟨kQ,akM M3⟩]⟩::Lk5
theorem ak6:bJ Lk6 fun c=>bJ c.l (ak Pg c.f c.nt):=⟨⟨aue,trivial⟩,⟨aqZ,trivial⟩,⟨aoA,trivial⟩,⟨apZ,trivial⟩,⟨auW,trivial⟩,⟨am0,trivial⟩,⟨arc,trivial⟩,⟨an6,trivial⟩,⟨auQ,trivial⟩,⟨ay6,trivial⟩,ak5⟩
def Ek6:aE:=aE.ofIO Lk6 bw io0
theorem ek6:Ek6.Ok Pg:=aE.ofIO_ok aO ak6
def It (α:Type)(a:Int)(k1:Int->Int->Op α):Op α:=
 fV α a 4194304
 (fun b=>cK (decide (2097152<=(w64 (a - (w64 (4194304*b))))))
 (xQ α (w64 ((w64 (a - (w64 (4194304*b)))) - 2097152))
 (fun c d=>jM α c d 2
 (fun e g=>k1 e g)))
 (cK (decide (1048576<=(w64 (a - (w64 (4194304*b))))))
 (xQ α (w64 ((w64 (a - (w64 (4194304*b)))) - 1048576))
 (fun h i=>jM α h i 1
 (fun j l=>k1 j l)))
 (cK (decide (524288 < (w64 (a - (w64 (4194304*b))))))
 (iy α (w64 (1048576 - (w64 (a - (w64 (4194304*b))))))
 (fun m o=>k1 o m))
 (iy α (w64 (a - (w64 (4194304*b))))
 (fun p q=>k1 p q)))))
def rz:ea:=sld It
def PS (v:ea)(α:Type)(k:RT α):Int->Op α:=fun a=>v α a (fun b c=>bt k b c)
theorem auJ:ak Pg 274 36 ⟨aU,PS rz⟩:=iP ek6 akI (ah Tryz.func274 (by kernel_rfl)) al7 fun _ _=>by kernel_rfl
def axI:aE:=aE.ofIO (⟨274,36,[⟨aU,PS rz⟩]⟩::Lk6) bw io0
theorem at9:axI.Ok Pg:=aE.ofIO_ok aO ⟨⟨auJ,trivial⟩,ak6⟩
def Zn (α:Type)(a:Int)(k1:Int->Int->Op α):Op α:=
 fV α a 4194304
 (fun b=>cK (decide (2097152<=(w64 (a - (w64 (4194304*b))))))
 (rz α (w64 ((w64 (a - (w64 (4194304*b)))) - 2097152))
 (fun c d=>jM α c d 2
 (fun e g=>k1 e g)))
 (cK (decide (1048576<=(w64 (a - (w64 (4194304*b))))))
 (rz α (w64 ((w64 (a - (w64 (4194304*b)))) - 1048576))
 (fun h i=>jM α h i 1
 (fun j l=>k1 j l)))
 (cK (decide (524288 < (w64 (a - (w64 (4194304*b))))))
 (iy α (w64 (1048576 - (w64 (a - (w64 (4194304*b))))))
 (fun m o=>k1 o m))
 (iy α (w64 (a - (w64 (4194304*b))))
 (fun p q=>k1 p q)))))
def BK:ea:=sld Zn
def VY (v:ea)(α:Type)(k:RT α):Int->Op α:=fun a=>v α a (fun b c=>bt k b c)
theorem aqb:ak Pg 274 36 ⟨aU,VY BK⟩:=iP at9 akI (ah Tryz.func274 (by kernel_rfl)) al7 fun _ _=>by kernel_rfl
def aGR:SG:=[(14,iS 2),(18,iT),(20,iS 3),(22,iS 2),(24,iS 2),(29,iT),(31,iS 2),(38,iT),(40,iS 2),(46,iT),(48,iS 2),(52,iS 2),(55,iT),(60,iT)]
def aAr:TG:=[tT 0 [2,3,4],tT 1 [2,3,4,6],tT 2 [2,3,4,6,19],tT 3 [4,5],tT 4 [2,3,4,6,7],tT 5 [2,3,4,6,7,8,9],tT 6 [2,3,4,6,8,9,10,11],tT 7 [4,8,9,10,11,12],tT 8 [4,5]]
def aC7:ap:=aw Pg Tryz.f223 aAr aC
def SW (α:Type)(c d h a b e:Int)(k1:I4 (Op α)):Op α:=
 nR α a b
 (fun g=>cK (decide (g<=e))
 (k1 c d h 9)
 (Ik α b
 (fun m=>yk α c d a m
 (fun o p=>jq α a b
 (fun q=>mK α o 1048576 q
 (fun i r=>jq α a b
 (fun s=>mK α p 1048576 s
 (fun j t=>mE α a b
 (fun w=>mE α c d
 (fun z=>Ci α (w64 ((w64 (h*w))+(w64 (z*e)))) 1048576 (w64 ((w64 (g - e))*g))
 (fun l=>cK r
 (ju α true
 (fun A=>k1 i j (w64 (l+A)) 0))
 (ju α t
 (fun B=>k1 i j (w64 (l+B)) 0)))))))))))))
def KE:fS:=sld SW
def Qk (v:fS)(α:Type)(k:RT α):I6 (Op α):=fun a b c d e g=>v α a b c d e g (fun h i j l=>bD k h i j l)
theorem ap6:ak Pg 223 76 ⟨dY,Qk KE⟩:=iP ek6 aC7 (ah Tryz.func223 (by kernel_rfl)) aGR fun _ _=>by kernel_rfl
def aeA:SG:=[(10,iS 2),(15,iT),(17,iS 3),(21,iT),(26,iT),(28,iT),(33,iT),(36,iS 3),(40,iT),(48,iT),(59,iT),(64,iT),(76,iT),(81,iS 2),(83,iT)]
def aGc:TG:=[tT 0 [1,2],tT 1 [1,2,4],tT 2 [1,2,4,12],tT 3 [2,3],tT 4 [1,2,4,18],tT 5 [2,3],tT 6 [1,2,4,5],tT 7 [1,2,4,5,6],tT 8 [1,2,4,5,8],tT 9 [1,2,4,5,8,60],tT 10 [1,2,4,5,6,8],tT 11 [1,2,4,5,8],tT 12 [1,2,4,5,8,77],tT 13 [1,2,4,5,8],tT 14 [2,3]]
def Yl:ap:=aw Pg Tryz.f195 aGc aC
def Do:PT St:=pS [sP 1,sP 2,sI 4,sl 12 (aV false [(cD dB)])] [au 1 (xs 3),au 2 (xs 3)]
def aEg {β:Type}(g:St->β):Int->Bool->I6 β:=Do.unc g
def aeI:PT St:=pS [sP 1,sP 2,sI 4,sl 18 (aV false [(cD dB)])] [au 1 (xs 3),au 2 (xs 3)]
def agu {β:Type}(g:St->β):Int->Bool->I6 β:=aeI.unc g
def Em:PT St:=pS [sP 1,sP 2,sI 4,sI 5,sP 8] [au 1 (xs 3),au 2 (xs 3),au 8 [xI,xI]]
def alz {β:Type}(g:St->β):I10 β:=Em.unc g
def akH:PT St:=pS [sP 1,sP 2,sI 4,sI 5,sP 8,sl 77 (aV false [(cD dB)])] [au 1 (xs 3),au 2 (xs 3),au 8 [xI,xI]]
def aiV {β:Type}(g:St->β):Int->Int->Bool->I8 β:=akH.unc g
def ajb:PT St:=pS [sP 1,sP 2,sI 4,sI 5,sP 8,sl 60 (aV false [(cD dB)])] [au 1 (xs 3),au 2 (xs 3),au 8 [xI,xI]]
def ajv {β:Type}(g:St->β):Int->Int->Bool->I8 β:=ajb.unc g
def aby:ag:=ag.sub [1,1,1,1,1,1,0] (emb Yl)
abbrev GW:Type 1:=(α:Type)->Int->Int->Int->(Int->Int->Op α)->(Bool->Int->Op α)->(Bool->Op α)->Op α
def GP (α:Type)(b c a:Int)(k1:Int->Int->Op α)(k2:Bool->Int->Op α)(k3:Bool->Op α):Op α:=
 cK (decide (c < 0))
 (oS α a
 (fun e=>mK α e 1048576 (w64 (2*b))
 (fun d g=>cK (decide (a < 0))
 (k1 d (w64 (0 - b)))
 (k2 (decide (a < 0)) d))))
 (k3 (decide (c < 0)))
def om:GW:=sld GP
def LY (v:GW)(α:Type)(K:KT α):I10 (Op α):=fun e a c d g h i j m o=>v α a c d (fun b l=>alz (K .normal) e a c d g h i j b l) (fun b l=>aiV (K .normal) e a b c d g h i j l a) (fun b=>ajv (K .normal) e a b c d g h i j m o)
theorem age:∀ (α:Type) (K:KT α),LY om α K=Em.unc fun σ=>az Pg Ek6 aeA aby K σ:=aY (fun α K=>by kernel_rfl)
def abd:ag:=ag.sub [1,1,0,0,1,1,0] (emb Yl)
def Gu (α:Type)(b c a:Int)(k1:Bool->Op α):Op α:=
 cK (decide (b < 0))
 (jS α c a
 (fun d=>cK d
 (k1 (a != 0))
 (k1 false)))
 (k1 false)
def tG:cg:=sld Gu
def L4 (v:cg)(α:Type)(K:KT α):Int->Bool->I6 (Op α):=fun d j a b c e g h=>v α a b c (fun i=>agu (K .normal) d i a b c e g h)
theorem ad0:∀ (α:Type) (K:KT α),L4 tG α K=Do.unc fun σ=>az Pg Ek6 aeA abd K σ:=aY (fun α K=>by kernel_rfl)
def Kp (α:Type)(c d a:Int)(k1:I4 (Op α)):Op α:=
 nR α c d
 (fun e=>cK (decide (e<=a))
 (k1 c d a 9)
 (tG α c d a
 (fun g=>cK g
 (k1 c d a 14)
 (oS α c
 (fun h=>eD α (w64 ((w64 (e+h))*524288))
 (fun b=>mK α d 1048576 (w64 (2*b))
 (fun i B=>om α b c d
 (fun j l=>eD α (w64 (e*1048576))
 (fun m=>cB α (w64 (a*1048576)) m
 (fun o=>cB α 1048576 b
 (fun p=>k1 j l (w64 ((w64 (o+3))+p)) 0))))
 (fun C q=>eD α (w64 (e*1048576))
 (fun r=>cB α (w64 (a*1048576)) r
 (fun s=>cB α 1048576 b
 (fun t=>k1 q b (w64 ((w64 (s+3))+t)) 0))))
 (fun D=>eD α (w64 (e*1048576))
 (fun w=>cB α (w64 (a*1048576)) w
 (fun z=>cB α 1048576 b
 (fun A=>k1 b i (w64 ((w64 (z+3))+A)) 0)))))))))))
def sa:kf:=sld Kp
def UG (v:kf)(α:Type)(k:RT α):Int->Int->Int->Op α:=fun a b c=>v α a b c (fun d e g h=>bD k d e g h)
def amS:ag:=(ag.put (.m [⟨Do,L4 tG⟩]) [1,1,0,0,1,1] (ag.put (.m [⟨Em,LY om⟩]) [1,1,1,1,1,1] (emb Yl)))
theorem asg:ak Pg 195 94 ⟨cX,UG sa⟩:=iZ ek6 (ah Tryz.func195 (by kernel_rfl)) aeA amS ((an _ _).trans ((an _ _).trans (aA _))) (aL (by kernel_rfl) (aL (by kernel_rfl) (aD Yl) ⟨age,trivial⟩) ⟨ad0,trivial⟩) fun _ _=>by kernel_rfl
def aEq:SG:=[(12,iS 2),(14,iS 2),(18,iT),(24,iT),(32,iS 2),(35,iT),(38,iS 2),(41,iT),(45,iT),(47,iT)]
def aHF:TG:=[tT 0 [2,3,4],tT 1 [2,3,4,6],tT 2 [2,3,4,6,7,8],tT 3 [2,3,4,7,8,9,10],tT 4 [4,5]]
def aBR:ap:=aw Pg Tryz.f219 aHF aC
def RI (α:Type)(a b c d e g:Int)(k1:Int->Int->Int->Op α):Op α:=
 yk α a b d e
 (fun l m=>my α l 1048576
 (fun h o=>my α m 1048576
 (fun i p=>mE α a b
 (fun q=>mE α d e
 (fun r=>cB α (w64 ((w64 ((w64 (q*g))+(w64 (r*c))))+(w64 (c*g)))) 1048576
 (fun j=>cK o
 (ju α true
 (fun s=>k1 h i (w64 (j+s))))
 (ju α p
 (fun t=>k1 h i (w64 (j+t))))))))))
def Id:fK:=sld RI
def P8 (v:fK)(α:Type)(k:RT α):I6 (Op α):=fun a b c d e g=>v α a b c d e g (fun h i j=>bD k h i j 0)
theorem atn:ak Pg 219 58 ⟨dY,P8 Id⟩:=iP ek6 aBR (ah Tryz.func219 (by kernel_rfl)) aEq fun _ _=>by kernel_rfl
def avQ:SG:=[(8,[.cpx .f64]),(16,iT),(20,iS 2),(22,iT)]
def aC8:TG:=[tT 0 [1,2],tT 1 [1,2,4,5],tT 2 [1,2,4,5,19],tT 3 [1,2,4,5],tT 4 [2,3]]
def akh:ap:=aw Pg Tryz.f165 aC8 aC
def Dx:PT St:=pS [sP 1,sP 2,sP 4,sI 5] [au 1 [(cD (dX .f64)),xI],au 2 (xs 3),au 4 [xI,xI]]
def alL {β:Type}(g:St->β):Int->Nat->Nat->I6 β:=Dx.unc g
def al1:PT St:=pS [sP 1,sP 2,sP 4,sI 5,sl 19 (aV false [(cD dB)])] [au 1 [(cD (dX .f64)),xI],au 2 (xs 3),au 4 [xI,xI]]
def ajO {β:Type}(g:St->β):Int->Bool->Nat->Nat->I6 β:=al1.unc g
def ain:ag:=ag.sub [1,1,0] (emb akh)
abbrev qp:Type 1:=(α:Type)->Int->Int->(Op α)->(Bool->Op α)->Op α
def EW (α:Type)(b c:Int)(k1:Op α)(k2:Bool->Op α):Op α:=
 cK (b == 0)
 (kU α c 0 67108864
 (fun a=>cK (!a)
 (k1)
 (k2 (!a))))
 (k2 false)
def vJ:qp:=sld EW
def La (v:qp)(α:Type)(K:KT α):Int->Nat->Nat->I6 (Op α):=fun b c d a e g h i j=>v α b a (alL (K .normal) 2 c d a e g h i j) (fun l=>ajO (K .normal) b l c d a e g h i j)
theorem ajc:∀ (α:Type) (K:KT α),La vJ α K=Dx.unc fun σ=>az Pg Ek6 avQ ain K σ:=aY (fun α K=>by kernel_rfl)
abbrev zT:Type 1:=(α:Type)->Nat->Nat->Int->(Int->Int->Int->Op α)->Op α
def Xi (α:Type)(d e:Nat)(g:Int)(k1:Int->Int->Int->Op α):Op α:=
 BO α d e 4724276009111650304
 (fun a b c=>vJ α c g
 (k1 a b 2)
 (fun h=>k1 a b c))
def eZ:zT:=sld Xi
def kz:PT (List DV):=pA [pV true [(dX .f64),(dI .i64)]]
def YC (v:zT)(α:Type)(k:RT α):Nat->Nat->Int->Op α:=fun b c a=>v α b c a (fun d e g=>bD k d e a g)
def apg:ag:=(ag.put (.m [⟨Dx,La vJ⟩]) [1,1] (emb akh))
theorem aot:ak Pg 165 25 ⟨kz,YC eZ⟩:=iZ ek6 (ah Tryz.func165 (by kernel_rfl)) avQ apg ((an _ _).trans (aA _)) (aL (by kernel_rfl) (aD akh) ⟨ajc,trivial⟩) fun _ _=>by kernel_rfl
def av8:SG:=[(10,iT)]
def aBc:TG:=[tT 0 [0,1,2,6],tT 1 [0,1,2,6,11],tT 2 [0,6],tT 3 [0,6]]
def aCU:ap:=aw Pg Tryz.f191 aBc aC
def TR (α:Type)(a b c:Int)(k1:Nat->Nat->Int->Int->Op α):Op α:=
 cK (a != 0)
 (k1 0 0 0 a)
 (BY α b c
 (fun d e g h=>dR α
 (k1 d e g h)))
def xh:qY:=sld TR
def qi:PT (List DV):=pA [pV false [(dMr [(dI .i64),(dI .i64),(dI .i64),(dI .i64),(dI .i64),(dI .i64),(dI .i64),dL,(dI .i64),(dI .i64)] 0)],vI,vI]
def UZ (v:qY)(α:Type)(k:RT α):Int->Int->Int->Int->Int->Int->Int->ae->I4 (Op α):=fun a b c d e g h i j l m o=>v α a m o (fun p q r s=>cG k p q r s b c d e g h i j l)
theorem asF:ak Pg 191 20 ⟨qi,UZ xh⟩:=iP ek6 aCU (ah Tryz.func191 (by kernel_rfl)) av8 fun _ _=>by kernel_rfl
def aGq:TG:=[tT 0 [0,1,2,6],tT 1 [0,1,2,6,11],tT 2 [0,6],tT 3 [0,6]]
def aBz:ap:=aw Pg Tryz.f160 aGq aC
def Zy (α:Type)(a b c:Int)(k1:Nat->Nat->Int->Int->Op α):Op α:=
 cK (a != 0)
 (k1 0 0 0 a)
 (mV α b c
 (fun d e g h=>dR α
 (k1 d e g h)))
def n9:qY:=sld Zy
def Y8 (v:qY)(α:Type)(k:RT α):Int->Int->Int->Int->Int->Int->Int->ae->I4 (Op α):=fun a b c d e g h i j l m o=>v α a m o (fun p q r s=>cG k p q r s b c d e g h i j l)
theorem arw:ak Pg 160 21 ⟨qi,Y8 n9⟩:=iP ek6 aBz (ah Tryz.func160 (by kernel_rfl)) av8 fun _ _=>by kernel_rfl
def azX:SG:=[(7,[.int .i64,.int .i64,.int .i64,.int .i64,.int .i64,.int .i64,.sl,.int .i64,.int .i64]),(11,[.int .i64,.int .i64,.int .i64,.int .i64,.int .i64,.int .i64,.sl,.int .i64,.int .i64])]
def aCC:TG:=[tT 0 [1],tT 1 [1,5],tT 2 [2,3]]
def aHg:ap:=aw Pg Tryz.f127 aCC aC
def ZR:PT (List RV):=pRs [pR false [rJ [(dI .i64),(dI .i64),(dI .i64),(dI .i64),(dI .i64),(dI .i64),(dI .i64),dL,(dI .i64),(dI .i64)] 0],wI]
def aal {β:Type}(g:List RV->β):Int->Int->Int->Int->Int->Int->Int->ae->Int->Int->Int->β:=ZR.unc g
abbrev V3:Type 1:=(α:Type)->Int->Int->Int->Int->Int->Int->ae->Int->Int->(Int->Op α)->Op α
def U4 (α:Type)(a b c d e g:Int)(h:ae)(i j:Int)(k1:Int->Op α):Op α:=
 Ga α a b c d e g h i j
 (fun m l=>k1 l)
def Ia:V3:=sld U4
def RP (v:V3)(α:Type)(k:RT α):Int->Int->Int->Int->Int->Int->ae->Int->Int->Op α:=fun a b c d e g h i j=>v α a b c d e g h i j (fun l=>aal k 0 a b c d e g h i j l)
theorem ap4:ak Pg 127 15 ⟨eW,RP Ia⟩:=iP ek6 aHg (ah Tryz.func127 (by kernel_rfl)) azX fun _ _=>by kernel_rfl
def aJB:SG:=[(10,[.sl]),(19,[.sl,.sl,.int .i64,.int .i64]),(21,[.sl]),(22,iS 9),(23,iS 9),(25,[.sl]),(26,iS 9),(27,iS 9)]
def aKB:TG:=[tT 0 [1],tT 1 [1,4,5],tT 2 [1,4,5,15],tT 3 [2,3],tT 4 [7],tT 5 [2,3]]
def aIV:ap:=aw Pg Tryz.f70 aKB aC
def Pz (α:Type)(a c:ae)(d e:Int)(k1:Int->Int->Op α):Op α:=
 GT α a
 (fun g b=>cK (b != 0)
 (k1 g b)
 (dE a 0 [.int .i64,.int .i64,.int .i64,.int .i64,.int .i64,.int .i64,.int .i64,.int .i64,.int .i64]
 (fun q h i r s t w z A=>dE a 0 [.int .i64,.int .i64,.int .i64,.int .i64,.int .i64,.int .i64,.int .i64,.int .i64,.int .i64]
 (fun B C D j l m o F G=>F9 α
 (Fy α
 (Ga α i j l h m o c d e
 (fun H p=>k1 0 p)))))))
def za:Kv:=sld Pz
def ada (v:Kv)(α:Type)(k:RT α):ae->ae->Int->Int->Op α:=fun a b c d=>v α a b c d (fun e g=>g8 k e g)
theorem ay2:ak Pg 70 34 ⟨kQ,ada za⟩:=iP ek6 aIV (ah Tryz.func70 (by kernel_rfl)) aJB fun _ _=>by kernel_rfl
def aJK:SG:=[(9,[.sl,.sl,.int .i64,.int .i64]),(19,[.sl]),(25,[.sl,.sl,.int .i64,.int .i64]),(27,[.sl]),(29,iS 9),(30,iS 9)]
def aJz:TG:=[(0,⟨[1,2,4],true,[⟨true,4,0,30400,9⟩,⟨true,4,1,30401,5⟩],[]⟩),(1,⟨[1,2,4,7],true,[⟨true,4,0,30400,9⟩,⟨true,4,1,30401,5⟩],[]⟩),(2,⟨[1,2,4,7,14],true,[⟨true,4,0,30400,9⟩,⟨true,4,1,30401,5⟩],[]⟩),(3,⟨[4,5],true,[⟨true,4,0,30400,9⟩,⟨true,4,1,30401,5⟩],[]⟩),(4,⟨[1,2,4,23],true,[⟨true,4,0,30400,9⟩,⟨true,4,1,30401,5⟩],[]⟩),(5,⟨[4,5],true,[⟨true,4,0,30400,9⟩,⟨true,4,1,30401,5⟩],[]⟩),(6,⟨[4,5],true,[⟨true,4,0,30400,9⟩,⟨true,4,1,30401,5⟩],[]⟩)]
def aIv:ap:=aw Pg Tryz.f40 aJz aC
def ait:PT (List RV):=pRs [pR true [rO 9,rO 5,rD (dI .i64),rD (dI .i64),rD (dI .i64),rD (dI .i64),rD (dI .i64),rD (dI .i64),rD (dI .i64),rD (dI .i64),rD (dI .i64),rD (dI .i64),rD (dI .i64)],wI]
def acv {β:Type}(g:List RV->β):ae->ae->I12 β:=ait.unc g
def ahu:PT (List RV):=pRs [pR true [rD dL,rD dL,rD (dI .i64),rD (dI .i64),rD (dI .i64),rD (dI .i64),rD (dI .i64),rD (dI .i64),rD (dI .i64),rD (dI .i64),rD (dI .i64),rD (dI .i64),rD (dI .i64)],wI]
def akx {β:Type}(g:List RV->β):ae->ae->I12 β:=ahu.unc g
noncomputable abbrev Lk7:List bE:=⟨70,34,[⟨kQ,ada za⟩]⟩::⟨165,25,[⟨kz,YC eZ⟩]⟩::⟨219,58,[⟨dY,P8 Id⟩]⟩::⟨223,76,[⟨dY,Qk KE⟩]⟩::⟨195,94,[⟨cX,UG sa⟩]⟩::⟨160,21,[⟨qi,Y8 n9⟩]⟩::⟨191,20,[⟨qi,UZ xh⟩]⟩::⟨127,15,[⟨eW,RP Ia⟩]⟩::Lk6
theorem ak7:bJ Lk7 fun c=>bJ c.l (ak Pg c.f c.nt):=⟨⟨ay2,trivial⟩,⟨aot,trivial⟩,⟨atn,trivial⟩,⟨ap6,trivial⟩,⟨asg,trivial⟩,⟨arw,trivial⟩,⟨asF,trivial⟩,⟨ap4,trivial⟩,ak6⟩
def Ek7:aE:=aE.ofIO Lk7 bw io0
theorem ek7:Ek7.Ok Pg:=aE.ofIO_ok aO ak7
abbrev H3:Type 1:=(α:Type)->ae->ae->Int->Int->Int->(Int->Op α)->(I9 (Op α))->Op α
def alH (α:Type)(a d:ae)(e g b:Int)(k1:Int->Op α)(k2:I9 (Op α)):Op α:=
 za α a d e g
 (fun t c=>cK (c != 0)
 (k1 c)
 (iD α b 0 (w64 (((List.length a:Nat):Int) - 1))
 (fun h=>cK (!h)
 (k1 6)
 (dE a b [.int .i64,.int .i64,.int .i64,.int .i64,.int .i64,.int .i64,.int .i64,.int .i64,.int .i64]
 (fun i j l m o p q r s=>k2 i j l m o p q r s)))))
def Vu:H3:=sld alH
def afo:PT (List DV):=pA [pV true [dL,dL,(dI .i64),(dI .i64)],vI]
def aeq (v:H3)(α:Type)(k:RT α):ae->ae->Int->Int->Int->Op α:=fun b c d e g=>v α b c d e g (fun a=>acv k ([]:ae) ([]:ae) 0 0 0 0 0 0 0 0 0 0 0 a) (fun a h i j l m o p q=>akx k b c d e a h i j l m o p q 0)
theorem azy:ak Pg 40 32 ⟨afo,aeq Vu⟩:=iP ek7 aIv (ah Tryz.func40 (by kernel_rfl)) aJK fun _ _=>by kernel_rfl
def aDV:SG:=[(24,iS 3),(27,iS 3),(34,iS 3),(38,iS 3),(45,iS 3),(46,iS 3),(49,iS 12)]
def aDJ:TG:=[tT 0 [0,4,5,6],tT 1 [0,4,5,6,7],tT 2 [0,4,5,6,7,8],tT 3 [0,4,5,6,7,8,13],tT 5 [0,4,5,6,7,8,9],tT 6 [0,4,5,6,7,8,9,17],tT 8 [0,4,5,6,7,8,9,10],tT 9 [0,4,5,6,7,8,9,10,11],tT 10 [0,4,5,6,7,8,9],tT 7 [0,4,5,6,7,8,9],tT 4 [0,4,5,6,7,8],tT 11 [0,6]]
def aCM:TG:=[tT 3 [0,4,5,6,7,8],tT 6 [0,4,5,6,7,8,9]]
def Zf:ap:=aw Pg Tryz.f263 aDJ aCM
def aIf:OT:=tdC (ag.sub [1,1,0,1,0] (emb Zf))
def aF7:OT:=tdC (ag.sub [1,1,0,1,0,0,1,0,0,1,0] (emb Zf))
def aaP:PT (List RV):=pRs [pR true [rD (dI .i64),rD (dI .i64),rD (dI .i64),rD (dI .i64),rD (dI .i64),rD (dI .i64),rD (dI .i64),rD (dI .i64),rD (dI .i64),rD (dI .i64),rD (dI .i64),rD (dI .i64)],pR true [rD (dI .i64)]]
def FI {β:Type}(g:List RV->β):I13 β:=aaP.unc g
abbrev UP:Type 1:=(α:Type)->Int->Int->Int->Int->Int->Int->Int->Int->Int->Int->Int->Int->Int->Int->Int->Int->Int->Int->Int->Int->Int->Int->Int->Int->Int->(I13 (Op α))->Op α
def Vd (α:Type)(G a b c d e g h i j l m o p q r s t w z A B C D F:Int)(k1:I13 (Op α)):Op α:=
 ci α G a b c p q r
 (fun H I J L=>ci α L d e g z A B
 (fun M N O P=>eB α P H I J M N O
 (fun Q R T U=>ci α U a b c s t w
 (fun V W X Y=>ci α Y d e g C D F
 (fun Z a0 a1 a2=>eB α a2 V W X Z a0 a1
 (fun a3 a4 a5 a6=>ci α a6 h i j p q r
 (fun a7 a8 a9 b0=>ci α b0 l m o z A B
 (fun b1 b2 b3 b4=>eB α b4 a7 a8 a9 b1 b2 b3
 (fun b5 b6 b7 b8=>ci α b8 h i j s t w
 (fun b9 c0 c1 c2=>ci α c2 l m o C D F
 (fun c3 c4 c5 c6=>eB α c6 b9 c0 c1 c3 c4 c5
 (fun c7 c8 c9 d0=>k1 Q R T a3 a4 a5 b5 b6 b7 c7 c8 c9 d0))))))))))))
def xJ:UP:=sld Vd
def UE:PT (List DV):=pA [pV false [(dMr [(dI .i64)] 0)],pV true [(dI .i64),(dI .i64),(dI .i64),(dI .i64),(dI .i64),(dI .i64),(dI .i64),(dI .i64),(dI .i64),(dI .i64),(dI .i64),(dI .i64)],pV true [(dI .i64),(dI .i64),(dI .i64),(dI .i64),(dI .i64),(dI .i64),(dI .i64),(dI .i64),(dI .i64),(dI .i64),(dI .i64),(dI .i64)]]
def Zt (v:UP)(α:Type)(k:RT α):I25 (Op α):=fun a b c d e g h i j l m o p q r s t w z A B C D F G=>v α a b c d e g h i j l m o p q r s t w z A B C D F G (fun H I J L M N O P Q R T U V=>FI k H I J L M N O P Q R T U V)
def arM:ag:=(ag.put (.u 3) [1,1,0,1,0] (ag.put (.u 3) [1,1,0,1,0,0,1,0,0,1,0] (emb Zf)))
theorem amH:ak Pg 263 50 ⟨UE,Zt xJ⟩:=iZ ek7 (ah Tryz.func263 (by kernel_rfl)) aDV arM ((an _ _).trans ((an _ _).trans (aA _))) (E3 (by decide) (E3 (by decide) (aD Zf))) fun _ _=>by kernel_rfl
def aCY:SG:=[(14,iS 3),(21,iS 3),(26,iS 3),(27,iS 3),(30,iS 3),(31,iS 3),(33,iS 3),(34,iS 3),(35,iS 3),(36,iS 3)]
def aCD:TG:=[tT 0 [0,4,5,6],tT 1 [0,4,5,6,7],tT 2 [0,4,6,7,8],tT 3 [0,4,6,7,8,9],tT 4 [0,6,7,9,10],tT 5 [0,6]]
def aDi:ap:=aw Pg Tryz.f264 aCD aC
abbrev Zx:Type 1:=(α:Type)->Int->Int->Int->Int->Int->Int->Int->(I13 (Op α))->Op α
def R5 (α:Type)(p a b c d e g:Int)(k1:I13 (Op α)):Op α:=
 mT α
 (eB α p 1048576 0 0 d e g
 (fun q r s t=>xi α
 (ci α t q r s 524288 0 0
 (fun h i j w=>mT α
 (mu α w 1048576 0 0 d e g
 (fun z A B C=>xi α
 (ci α C z A B 524288 0 0
 (fun l m o D=>kZ α D l m o a b c
 (fun F G H I=>ci α I l m o a b c
 (fun J L M N=>k1 h i j F G H J L M h i j N))))))))))
def yC:Zx:=sld R5
def P5 (v:Zx)(α:Type)(k:RT α):I7 (Op α):=fun a b c d e g h=>v α a b c d e g h (fun i j l m o p q r s t w z A=>FI k i j l m o p q r s t w z A)
theorem amR:ak Pg 264 38 ⟨hI,P5 yC⟩:=iP ek7 aDi (ah Tryz.func264 (by kernel_rfl)) aCY fun _ _=>by kernel_rfl
def avp:SG:=[(11,iT),(17,iT),(20,iT),(25,iS 2),(33,iT),(38,iS 2),(50,iS 3),(52,iS 2)]
def aBv:TG:=[tT 0 [0,3,4],tT 1 [0,3,4,12],tT 2 [0,4],tT 3 [0,3,4,5],tT 4 [0,3,4,5,22],tT 5 [0,3,4,5],tT 6 [0,3,4,5,34],tT 7 [0,4],tT 8 [0,4,5,6,7],tT 9 [0,4,5,6,7,43],tT 10 [0,4],tT 11 [0,4],tT 12 [0,4]]
def ajm:ap:=aw Pg Tryz.f279 aBv aC
def BQ:PT St:=pSv [(0,500000000,0)] [sl 0 (aV false [(cC 500000000 0)]),sP 3,sP 4,sP 5] [au 500000000 [xI],au 3 (xs 4),au 4 (xs 3),au 5 (xs 3)]
def aiM {β:Type}(g:St->β):I11 β:=BQ.unc g
def adn:PT St:=pSv [(0,500000000,0)] [sl 0 (aV false [(cC 500000000 0)]),sP 3,sP 4,sP 5,sl 22 (aV false [(cD dB)])] [au 500000000 [xI],au 3 (xs 4),au 4 (xs 3),au 5 (xs 3)]
def alE {β:Type}(g:St->β):Bool->I11 β:=adn.unc g
def Z7:ag:=ag.sub [1,1,1,0] (emb ajm)
abbrev G7:Type 1:=(α:Type)->Int->Int->Int->(I4 (Op α))->(Bool->Op α)->Op α
def Hg (α:Type)(c a b:Int)(k1:I4 (Op α))(k2:Bool->Op α):Op α:=
 cK (decide ((w64 (b - a)) < 1048576))
 (xG α a b
 (fun d e g h=>du α c d e g h
 (fun i j l m=>k1 m i j l)))
 (k2 (decide ((w64 (b - a)) < 1048576)))
def wT:G7:=sld Hg
def Mp (v:G7)(α:Type)(K:KT α):I11 (Op α):=fun d a b e g h i j l m o=>v α d a b (fun c p q r=>aiM (K .normal) c a b e g h i j p q r) (fun c=>alE (K .normal) c d a b e g h i j l m o)
theorem agz:∀ (α:Type) (K:KT α),Mp wT α K=BQ.unc fun σ=>az Pg Ek7 avp Z7 K σ:=aY (fun α K=>by kernel_rfl)
def SU (α:Type)(a h i c d:Int)(k1:I4 (Op α)):Op α:=
 cK (a != 0)
 (k1 0 0 0 a)
 (wT α a h i
 (fun b j l m=>cK (b != 0)
 (k1 0 0 0 b)
 (r6 α c d
 (fun o p e=>cK (e != 0)
 (k1 0 0 0 e)
 (g6 α o p
 (fun q r s t=>du α b q r s t
 (fun w z A B=>ci α B j l m w z A
 (fun C D F G=>k1 C D F G)))))))
 (fun X=>cK (a != 0)
 (k1 0 0 0 a)
 (r6 α c d
 (fun H I g=>cK (g != 0)
 (k1 0 0 0 g)
 (g6 α H I
 (fun J L M N=>du α a J L M N
 (fun O P Q R=>ci α R 0 0 1048576 O P Q
 (fun T U V W=>k1 T U V W))))))))
def yG:AD:=sld SU
def S9:PT (List DV):=pA [pV false [(dMr [(dI .i64)] 0)],pV true [(dI .i64),(dI .i64),(dI .i64),(dI .i64)]]
def VO (v:AD)(α:Type)(k:RT α):I5 (Op α):=fun a b c d e=>v α a b c d e (fun g h i j=>ed k g h i j)
def ao4:ag:=(ag.put (.m [⟨BQ,Mp wT⟩]) [1,1,1] (emb ajm))
theorem aqo:ak Pg 279 58 ⟨S9,VO yG⟩:=iZ ek7 (ah Tryz.func279 (by kernel_rfl)) avp ao4 ((an _ _).trans (aA _)) (aL (by kernel_rfl) (aD ajm) ⟨agz,trivial⟩) fun _ _=>by kernel_rfl
def aE1:SG:=[(9,[.int .i64,.int .i64,.int .i64,.int .i64,.int .i64,.int .i64,.sl,.int .i64,.int .i64]),(15,iT),(20,iT),(29,iT),(35,iT),(38,iS 3),(40,iS 3),(43,iT)]
def aH5:TG:=[tT 0 [0,2,4,6],tT 1 [0,6,7],tT 2 [0,6,7,8],tT 3 [0,6,7,8,37],tT 4 [0,6],tT 5 [0,6]]
def aH3:ap:=aw Pg Tryz.f242 aH5 aC
abbrev Wb:Type 1:=(α:Type)->Int->Int->ae->Int->Int->Int->(I4 (Op α))->Op α
def Yw (α:Type)(g h:Int)(i:ae)(j l m:Int)(k1:I4 (Op α)):Op α:=
 rY α h i j l m
 (fun o p Q R e=>dC α (w64 (o*1048576)) 10000
 (fun q=>cy α (w64 (p*1048576)) 10000
 (fun r=>g6 α q r
 (fun s t w z=>du α g s t w z
 (fun b c d a=>cK (e == 0)
 (k1 b c d a)
 (cK (a != 0)
 (k1 b c d a)
 (yj α e 10000
 (fun A B C D=>du α a A B C D
 (fun F G H I=>rA α F G 1
 (fun J L=>eB α I b c d J L H
 (fun M N O P=>k1 M N O P)))))))))))
def yP:Wb:=sld Yw
def hF:PT (List DV):=pA [pV false [(dMr [(dI .i64)] 0)],pV true [(dI .i64),(dI .i64),(dI .i64),(dI .i64),(dI .i64),(dI .i64),dL,(dI .i64),(dI .i64)],vI]
def XG (v:Wb)(α:Type)(k:RT α):Int->Int->Int->Int->Int->Int->Int->ae->Int->Int->Int->Op α:=fun a b m o p q r c d e g=>v α a b c d e g (fun h i j l=>ed k h i j l)
theorem arp:ak Pg 242 50 ⟨hF,XG yP⟩:=iP ek7 aH3 (ah Tryz.func242 (by kernel_rfl)) aE1 fun _ _=>by kernel_rfl
def aHh:SG:=[(8,[.cpx .f64,.int .i64]),(16,iS 3),(19,iT),(21,iT),(25,iT),(27,iT)]
def aCu:TG:=[tT 0 [1,2],tT 1 [2,4,5],tT 2 [2,4,5,13],tT 3 [2,3],tT 4 [2,6],tT 5 [2,3]]
def aG6:ap:=aw Pg Tryz.f132 aCu aC
def Q7 (α:Type)(e g:Nat)(a:Int)(k1:Int->Int->Int->Op α):Op α:=
 eZ α e g a
 (fun h i b=>cK (b != 0)
 (k1 0 0 b)
 (JV α h i a
 (fun c d=>fV α (w64 (c*c)) 1048576
 (fun j=>cB α (w64 (d*d)) 1048576
 (fun l=>k1 j l 0)))))
def rM:zT:=sld Q7
def ZD (v:zT)(α:Type)(k:RT α):Nat->Nat->Int->Op α:=fun a b c=>v α a b c (fun d e g=>jd k d e g)
theorem asu:ak Pg 132 31 ⟨kz,ZD rM⟩:=iP ek7 aG6 (ah Tryz.func132 (by kernel_rfl)) aHh fun _ _=>by kernel_rfl
def av1:SG:=[(21,iT),(27,iT),(50,iS 3)]
def aCz:TG:=[tT 0 [0,1,4],tT 1 [0,1,4,6],tT 2 [0,1,4,6,7],tT 3 [0,1,4,6,7,8],tT 4 [0,1,4,6,8,10],tT 5 [0,1,4,12],tT 6 [4,12,48],tT 7 [4,12],tT 8 [4,5]]
def ac3:ap:=aw Pg Tryz.f254 aCz aC
def Et:PT St:=pS [sI 0,sI 1,sP 4,sP 12] [au 4 [(cD (dX .f64)),xI],au 12 (xs 3)]
def aFb {β:Type}(g:St->β):Int->Int->Nat->Nat->I4 β:=Et.unc g
def afh:PT St:=pS [sP 4,sP 12] [au 4 [(cD (dX .f64)),xI],au 12 (xs 3)]
def alf {β:Type}(g:St->β):Nat->Nat->I4 β:=afh.unc g
def ahZ:PT St:=pS [sP 4,sP 12,sl 48 (aV false [(cD dB)])] [au 4 [(cD (dX .f64)),xI],au 12 (xs 3)]
def aiX {β:Type}(g:St->β):Bool->Nat->Nat->I4 β:=ahZ.unc g
def afw:aE:=aE.ofIO (⟨274,36,[⟨aU,VY BK⟩]⟩::Lk7) bw io0
theorem anh:afw.Ok Pg:=aE.ofIO_ok aO ⟨⟨aqb,trivial⟩,ak7⟩
def abI:ag:=ag.sub [1,1,1,1,1,1,0] (emb ac3)
def Gs (α:Type)(a b:Int)(k1:Op α)(k2:Bool->Op α):Op α:=
 cK (a == b)
 (cK ((Int.tmod a 1048576) == 0)
 (k1)
 (k2 ((Int.tmod a 1048576) == 0)))
 (k2 false)
def vK:qp:=sld Gs
def K0 (v:qp)(α:Type)(K:KT α):Int->Int->Nat->Nat->I4 (Op α):=fun g h a b c d e i=>v α g h (alf (K .normal) a b c d e 0) (fun j=>aiX (K .normal) j a b c d e i)
theorem ad2:∀ (α:Type) (K:KT α),K0 vK α K=Et.unc fun σ=>az Pg afw av1 abI K σ:=aY (fun α K=>by kernel_rfl)
def P2 (α:Type)(b a:Int)(k1:Nat->Nat->Int->Int->Op α):Op α:=
 fV α (w64 (b+a)) 2
 (fun c=>BK α c
 (fun g h=>my α g 64
 (fun d t=>my α h 64
 (fun e w=>cB α (w64 (11*(w64 (a - c)))) 7
 (fun i=>vK α b a
 (fW α d e 0
 (fun j l m o=>k1 j l m o))
 (fun z=>fW α d e (w64 (2+i))
 (fun p q r s=>k1 p q r s)))))))
def Dh:fN:=sld P2
def T7 (v:fN)(α:Type)(k:RT α):Int->Int->Op α:=fun a b=>v α a b (fun c d e g=>bB k c d e g)
def arR:ag:=(ag.put (.m [⟨Et,K0 vK⟩]) [1,1,1,1,1,1] (emb ac3))
theorem arb:ak Pg 254 54 ⟨bq,T7 Dh⟩:=iZ anh (ah Tryz.func254 (by kernel_rfl)) av1 arR ((an _ _).trans (aA _)) (aL (by kernel_rfl) (aD ac3) ⟨ad2,trivial⟩) fun _ _=>by kernel_rfl
def YJ:SG:=[(7,iS 3),(8,iS 3)]
def aFe:TG:=[tT 0 [1,2,3,4],tT 1 [4,5]]
def Ys:ap:=aw Pg Tryz.f257 aFe aC
def Zs (α:Type)(a b c d e g:Int)(k1:Int->Int->Int->Op α):Op α:=
 JZ α d e g a b c
 (fun h i j=>k1 h i j)
def IX:fK:=sld Zs
def Q8:PT (List DV):=pA [pV true [(dI .i64),(dI .i64),(dI .i64)],pV false [(dP [(dFn 217 [])] 0)],pV false [(dP [(dI .i64),(dI .i64),(dI .i64)] 0)]]
def XR (v:fK)(α:Type)(k:RT α):I6 (Op α):=fun a b c d e g=>v α a b c d e g (fun h i j=>bD k h i j 0)
theorem asn:ak Pg 257 12 ⟨Q8,XR IX⟩:=iP ek7 Ys (ah Tryz.func257 (by kernel_rfl)) YJ fun _ _=>by kernel_rfl
def Wa (α:Type)(a b c d e g:Int)(k1:Int->Int->Int->Op α):Op α:=
 Id α d e g a b c
 (fun h i j=>k1 h i j)
def Ir:fK:=sld Wa
def PQ:PT (List DV):=pA [pV true [(dI .i64),(dI .i64),(dI .i64)],pV false [(dP [(dFn 219 [])] 0)],pV false [(dP [(dI .i64),(dI .i64),(dI .i64)] 0)]]
def VT (v:fK)(α:Type)(k:RT α):I6 (Op α):=fun a b c d e g=>v α a b c d e g (fun h i j=>bD k h i j 0)
theorem atA:ak Pg 257 12 ⟨PQ,VT Ir⟩:=iP ek7 Ys (ah Tryz.func257 (by kernel_rfl)) YJ fun _ _=>by kernel_rfl
def Wh (α:Type)(a b c d e g:Int)(k1:Int->Int->Int->Op α):Op α:=
 IM α d e g a b c
 (fun h i j=>k1 h i j)
def If:fK:=sld Wh
def VH:PT (List DV):=pA [pV true [(dI .i64),(dI .i64),(dI .i64)],pV false [(dP [(dFn 227 [])] 0)],pV false [(dP [(dI .i64),(dI .i64),(dI .i64)] 0)]]
def QT (v:fK)(α:Type)(k:RT α):I6 (Op α):=fun a b c d e g=>v α a b c d e g (fun h i j=>bD k h i j 0)
theorem asJ:ak Pg 257 12 ⟨VH,QT If⟩:=iP ek7 Ys (ah Tryz.func257 (by kernel_rfl)) YJ fun _ _=>by kernel_rfl
def Sg (α:Type)(a b c d e g:Int)(k1:I4 (Op α)):Op α:=
 KE α d e g a b c
 (fun h i j l=>k1 h i j l)
def Jk:fS:=sld Sg
def V4:PT (List DV):=pA [pV true [(dI .i64),(dI .i64),(dI .i64)],pV false [(dP [(dFn 223 [])] 0)],pV false [(dP [(dI .i64),(dI .i64),(dI .i64)] 0)]]
def Xb (v:fS)(α:Type)(k:RT α):I6 (Op α):=fun a b c d e g=>v α a b c d e g (fun h i j l=>bD k h i j l)
theorem aqc:ak Pg 257 12 ⟨V4,Xb Jk⟩:=iP ek7 Ys (ah Tryz.func257 (by kernel_rfl)) YJ fun _ _=>by kernel_rfl
def aHK:SG:=[(8,[.cpx .f64,.int .i64]),(20,iT),(25,iT)]
def aHk:TG:=[tT 0 [1,2],tT 1 [2,4,5],tT 2 [2,4,5,13],tT 3 [2,3],tT 4 [2,4,6],tT 5 [2,3]]
def aGE:ap:=aw Pg Tryz.f158 aHk aC
def aab:PT (List RV):=pRs [pR true [rD (dI .i64),rD (dI .i64),rD (dI .i64),rD (dI .i64)],wI]
def abu {β:Type}(g:List RV->β):I5 β:=aab.unc g
abbrev WJ:Type 1:=(α:Type)->Nat->Nat->Int->(I5 (Op α))->Op α
def TN (α:Type)(c d:Nat)(a:Int)(k1:I5 (Op α)):Op α:=
 eZ α c d a
 (fun e g b=>cK (b != 0)
 (k1 0 0 0 0 b)
 (Dl α e a
 (fun h i=>Dl α g a
 (fun j l=>k1 h i j l 0))))
def Bv:WJ:=sld TN
def Wi (v:WJ)(α:Type)(k:RT α):Nat->Nat->Int->Op α:=fun a b c=>v α a b c (fun d e g h i=>abu k d e g h i)
theorem arm:ak Pg 158 28 ⟨kz,Wi Bv⟩:=iP ek7 aGE (ah Tryz.func158 (by kernel_rfl)) aHK fun _ _=>by kernel_rfl
def aHW:SG:=[(13,[.int .i64,.int .i64,.int .i64,.int .i64,.int .i64,.int .i64,.sl,.int .i64,.int .i64]),(17,[.int .i64,.int .i64,.int .i64,.int .i64,.int .i64,.int .i64,.sl,.int .i64,.int .i64]),(20,iS 3),(21,iS 3),(24,iS 3),(25,iS 3),(27,iS 3),(29,iS 3),(30,iS 3)]
def aC4:TG:=[tT 0 [0,2,4,6,7],tT 1 [0,6,7,8,9],tT 2 [0,6,7,9,10],tT 3 [0,6,7,10,11],tT 4 [0,6,7]]
def aHH:ap:=aw Pg Tryz.f207 aC4 aC
def abB:PT (List RV):=pRs [pR true [rD (dI .i64),rD (dI .i64),rD (dI .i64)],pR true [rD (dI .i64),rD (dI .i64),rD (dI .i64)],pR true [rD (dI .i64)]]
def aaz {β:Type}(g:List RV->β):I7 β:=abB.unc g
noncomputable abbrev Lk8:List bE:=⟨242,50,[⟨hF,XG yP⟩]⟩::⟨254,54,[⟨bq,T7 Dh⟩]⟩::⟨257,12,[⟨Q8,XR IX⟩]⟩::⟨158,28,[⟨kz,Wi Bv⟩]⟩::⟨279,58,[⟨S9,VO yG⟩]⟩::⟨264,38,[⟨hI,P5 yC⟩]⟩::⟨263,50,[⟨UE,Zt xJ⟩]⟩::⟨132,31,[⟨kz,ZD rM⟩]⟩::⟨40,32,[⟨afo,aeq Vu⟩]⟩::Lk7
theorem ak8:bJ Lk8 fun c=>bJ c.l (ak Pg c.f c.nt):=⟨⟨arp,trivial⟩,⟨arb,trivial⟩,⟨asn,trivial⟩,⟨arm,trivial⟩,⟨aqo,trivial⟩,⟨amR,trivial⟩,⟨amH,trivial⟩,⟨asu,trivial⟩,⟨azy,trivial⟩,ak7⟩
def Ek8:aE:=aE.ofIO Lk8 bw io0
theorem ek8:Ek8.Ok Pg:=aE.ofIO_ok aO ak8
abbrev T4:Type 1:=(α:Type)->Int->Int->Int->Int->ae->Int->Int->Int->(I7 (Op α))->Op α
def WV (α:Type)(m a o p:Int)(q:ae)(r s t:Int)(k1:I7 (Op α)):Op α:=
 yP α m a q r s t
 (fun b c d w=>Du α w a o p
 (fun e g h z=>ci α z b c d b c d
 (fun i j l A=>ci α A e g h e g h
 (fun B C D F=>mu α F i j l B C D
 (fun G H I J=>k1 i j l G H I J)))))
def C5:T4:=sld WV
def QJ (v:T4)(α:Type)(k:RT α):Int->Int->Int->Int->Int->Int->Int->ae->Int->Int->Int->Op α:=fun a b c d s t w e g h i=>v α a b c d e g h i (fun j l m o p q r=>aaz k j l m o p q r)
theorem aqB:ak Pg 207 32 ⟨hF,QJ C5⟩:=iP ek8 aHH (ah Tryz.func207 (by kernel_rfl)) aHW fun _ _=>by kernel_rfl
def aAu:SG:=[(5,iS 2),(12,iT),(14,iT)]
def aDX:TG:=[tT 0 [1,2],tT 1 [1,2,4],tT 2 [1,2,4,8],tT 3 [2,3],tT 4 [2,3]]
def az5:ap:=aw Pg Tryz.f214 aDX aC
def XE (α:Type)(a b:Int)(k1:Nat->Nat->Int->Int->Op α):Op α:=
 xH α a b (-1099511627776)
 (fun c=>cK (c != 0)
 (k1 0 0 0 c)
 (Dh α a b
 (fun d e g h=>k1 d e g h)))
def yJ:fN:=sld XE
def Yv (v:fN)(α:Type)(k:RT α):Int->Int->Op α:=fun a b=>v α a b (fun c d e g=>bB k c d e g)
theorem asB:ak Pg 214 18 ⟨ba,Yv yJ⟩:=iP ek8 az5 (ah Tryz.func214 (by kernel_rfl)) aAu fun _ _=>by kernel_rfl
def Hw:SG:=[(9,[.cpx .f64,.int .i64]),(19,iS 3),(27,iS 3)]
def aEf:TG:=[tT 0 [1,2,4],tT 1 [1,4,6,7],tT 2 [1,4,6,7,14],tT 3 [4,5],tT 4 [4,6,7],tT 5 [4,6,7,24],tT 6 [4,5],tT 7 [4,5]]
def Gr:ap:=aw Pg Tryz.f194 aEf aC
abbrev AI:Type 1:=(α:Type)->Nat->Nat->Int->Int->(Nat->Nat->Int->Int->Op α)->Op α
def YR (α:Type)(d e:Nat)(a g:Int)(k1:Nat->Nat->Int->Int->Op α):Op α:=
 eZ α d e a
 (fun h i b=>cK (b != 0)
 (k1 0 0 0 b)
 (Ix α h i g
 (fun j l c=>cK (c != 0)
 (k1 0 0 0 c)
 (fW α j l a
 (fun m o p q=>k1 m o p q)))))
def IV:AI:=sld YR
def VZ:PT (List DV):=pA [pV true [(dX .f64),(dI .i64)],pV false [(dFn 230 [(dP [(dI .i64)] 0)])]]
def R9 (v:AI)(α:Type)(k:RT α):Nat->Nat->Int->Int->Op α:=fun a b c d=>v α a b c d (fun e g h i=>bB k e g h i)
theorem arE:ak Pg 194 31 ⟨VZ,R9 IV⟩:=iP ek8 Gr (ah Tryz.func194 (by kernel_rfl)) Hw fun _ _=>by kernel_rfl
abbrev kt:Type 1:=(α:Type)->Nat->Nat->Int->Int->Int->Int->(Nat->Nat->Int->Int->Op α)->Op α
def Uk (α:Type)(c d:Nat)(a e g h:Int)(k1:Nat->Nat->Int->Int->Op α):Op α:=
 eZ α c d a
 (fun i j b=>cK (b != 0)
 (k1 0 0 0 b)
 (IX α i j a e g h
 (fun l m o=>fW α l m o
 (fun p q r s=>k1 p q r s))))
def I0:kt:=sld Uk
def QZ:PT (List DV):=pA [pV true [(dX .f64),(dI .i64)],pV false [(dFn 257 [(dP [(dFn 217 [])] 0),(dP [(dI .i64),(dI .i64),(dI .i64)] 0)])]]
def Xz (v:kt)(α:Type)(k:RT α):Nat->Nat->I4 (Op α):=fun a b c d e g=>v α a b c d e g (fun h i j l=>bB k h i j l)
theorem ati:ak Pg 194 31 ⟨QZ,Xz I0⟩:=iP ek8 Gr (ah Tryz.func194 (by kernel_rfl)) Hw fun _ _=>by kernel_rfl
def aya:aE:=aE.ofIO (⟨257,12,[⟨PQ,VT Ir⟩]⟩::Lk8) bw io0
theorem aon:aya.Ok Pg:=aE.ofIO_ok aO ⟨⟨atA,trivial⟩,ak8⟩
def QR (α:Type)(c d:Nat)(a e g h:Int)(k1:Nat->Nat->Int->Int->Op α):Op α:=
 eZ α c d a
 (fun i j b=>cK (b != 0)
 (k1 0 0 0 b)
 (Ir α i j a e g h
 (fun l m o=>fW α l m o
 (fun p q r s=>k1 p q r s))))
def J8:kt:=sld QR
def PY:PT (List DV):=pA [pV true [(dX .f64),(dI .i64)],pV false [(dFn 257 [(dP [(dFn 219 [])] 0),(dP [(dI .i64),(dI .i64),(dI .i64)] 0)])]]
def Ym (v:kt)(α:Type)(k:RT α):Nat->Nat->I4 (Op α):=fun a b c d e g=>v α a b c d e g (fun h i j l=>bB k h i j l)
theorem aqA:ak Pg 194 31 ⟨PY,Ym J8⟩:=iP aon Gr (ah Tryz.func194 (by kernel_rfl)) Hw fun _ _=>by kernel_rfl
def axg:aE:=aE.ofIO (⟨257,12,[⟨VH,QT If⟩]⟩::Lk8) bw io0
theorem aqv:axg.Ok Pg:=aE.ofIO_ok aO ⟨⟨asJ,trivial⟩,ak8⟩
def XW (α:Type)(c d:Nat)(a e g h:Int)(k1:Nat->Nat->Int->Int->Op α):Op α:=
 eZ α c d a
 (fun i j b=>cK (b != 0)
 (k1 0 0 0 b)
 (If α i j a e g h
 (fun l m o=>fW α l m o
 (fun p q r s=>k1 p q r s))))
def JE:kt:=sld XW
def Sl:PT (List DV):=pA [pV true [(dX .f64),(dI .i64)],pV false [(dFn 257 [(dP [(dFn 227 [])] 0),(dP [(dI .i64),(dI .i64),(dI .i64)] 0)])]]
def Y5 (v:kt)(α:Type)(k:RT α):Nat->Nat->I4 (Op α):=fun a b c d e g=>v α a b c d e g (fun h i j l=>bB k h i j l)
theorem aoW:ak Pg 194 31 ⟨Sl,Y5 JE⟩:=iP aqv Gr (ah Tryz.func194 (by kernel_rfl)) Hw fun _ _=>by kernel_rfl
abbrev AW:Type 1:=(α:Type)->Nat->Nat->Int->(Nat->Nat->Int->Int->Op α)->Op α
def SR (α:Type)(d e:Nat)(a:Int)(k1:Nat->Nat->Int->Int->Op α):Op α:=
 eZ α d e a
 (fun g h b=>cK (b != 0)
 (k1 0 0 0 b)
 (sa α g h a
 (fun i j l c=>cK (c != 0)
 (k1 0 0 0 c)
 (fW α i j l
 (fun m o p q=>k1 m o p q)))))
def Ii:AW:=sld SR
def Yc:PT (List DV):=pA [pV true [(dX .f64),(dI .i64)],pV false [(dFn 195 [])]]
def Vz (v:AW)(α:Type)(k:RT α):Nat->Nat->Int->Op α:=fun a b c=>v α a b c (fun d e g h=>bB k d e g h)
theorem amv:ak Pg 194 31 ⟨Yc,Vz Ii⟩:=iP ek8 Gr (ah Tryz.func194 (by kernel_rfl)) Hw fun _ _=>by kernel_rfl
def awD:aE:=aE.ofIO (⟨257,12,[⟨V4,Xb Jk⟩]⟩::Lk8) bw io0
theorem arH:awD.Ok Pg:=aE.ofIO_ok aO ⟨⟨aqc,trivial⟩,ak8⟩
def Y4 (α:Type)(d e:Nat)(a g h i:Int)(k1:Nat->Nat->Int->Int->Op α):Op α:=
 eZ α d e a
 (fun j l b=>cK (b != 0)
 (k1 0 0 0 b)
 (Jk α j l a g h i
 (fun m o p c=>cK (c != 0)
 (k1 0 0 0 c)
 (fW α m o p
 (fun q r s t=>k1 q r s t)))))
def Kc:kt:=sld Y4
def US:PT (List DV):=pA [pV true [(dX .f64),(dI .i64)],pV false [(dFn 257 [(dP [(dFn 223 [])] 0),(dP [(dI .i64),(dI .i64),(dI .i64)] 0)])]]
def UQ (v:kt)(α:Type)(k:RT α):Nat->Nat->I4 (Op α):=fun a b c d e g=>v α a b c d e g (fun h i j l=>bB k h i j l)
theorem atc:ak Pg 194 31 ⟨US,UQ Kc⟩:=iP arH Gr (ah Tryz.func194 (by kernel_rfl)) Hw fun _ _=>by kernel_rfl
def aAp:SG:=[(9,iT),(14,[.cpx .f64,.int .i64]),(20,iS 4)]
def aF3:TG:=[tT 0 [0,3,4],tT 1 [0,3,4,10],tT 2 [0,4],tT 3 [0,3,4,5],tT 4 [0,4,5],tT 5 [0,4]]
def aFL:ap:=aw Pg Tryz.f129 aF3 aC
def aav:PT (List RV):=pRs [pR true [rD (dI .i64),rD (dI .i64),rD (dI .i64),rD (dI .i64)],pR true [rD (dI .i64),rD (dI .i64),rD (dI .i64),rD (dI .i64),rD (dI .i64),rD (dI .i64),rD (dI .i64),rD dL,rD (dI .i64),rD (dI .i64)]]
def Ge {β:Type}(g:List RV->β):Int->Int->Int->Int->Int->Int->Int->Int->Int->Int->Int->ae->Int->Int->β:=aav.unc g
abbrev X1:Type 1:=(α:Type)->Int->Nat->Nat->Int->(I5 (Op α))->Op α
def UB (α:Type)(a:Int)(b c:Nat)(d:Int)(k1:I5 (Op α)):Op α:=
 cK (a != 0)
 (k1 0 0 0 0 a)
 (Bv α b c d
 (fun e g h i j=>k1 e g h i j))
def oI:X1:=sld UB
def Qx:PT (List DV):=pA [pV false [(dMr [(dI .i64),(dI .i64),(dI .i64),(dI .i64),(dI .i64),(dI .i64),(dI .i64),dL,(dI .i64),(dI .i64)] 0)],pV true [(dX .f64),(dI .i64)]]
def Ur (v:X1)(α:Type)(k:RT α):Int->Int->Int->Int->Int->Int->Int->ae->Int->Int->Nat->Nat->Int->Op α:=fun a b c d e g h i j l m o p=>v α a m o p (fun q r s t w=>Ge k q r s t w b c d e g h i j l)
theorem auD:ak Pg 129 21 ⟨Qx,Ur oI⟩:=iP ek8 aFL (ah Tryz.func129 (by kernel_rfl)) aAp fun _ _=>by kernel_rfl
def aEG:SG:=[(4,[.cpx .f64,.int .i64])]
def aGW:TG:=[tT 0 [1,2],tT 1 [2,3]]
def aCm:ap:=aw Pg Tryz.f163 aGW aC
noncomputable abbrev Lk9:List bE:=⟨194,31,[⟨Yc,Vz Ii⟩]⟩::⟨207,32,[⟨hF,QJ C5⟩]⟩::⟨129,21,[⟨Qx,Ur oI⟩]⟩::⟨214,18,[⟨ba,Yv yJ⟩]⟩::Lk8
theorem ak9:bJ Lk9 fun c=>bJ c.l (ak Pg c.f c.nt):=⟨⟨amv,trivial⟩,⟨aqB,trivial⟩,⟨auD,trivial⟩,⟨asB,trivial⟩,ak8⟩
def Ek9:aE:=aE.ofIO Lk9 bw io0
theorem ek9:Ek9.Ok Pg:=aE.ofIO_ok aO ak9
def X9 (α:Type)(a b:Nat)(c:Int)(k1:Nat->Nat->Int->Int->Op α):Op α:=
 Ii α a b c
 (fun d e g h=>k1 d e g h)
def xO:AW:=sld X9
def Yr (v:AW)(α:Type)(k:RT α):Nat->Nat->Int->Op α:=fun a b c=>v α a b c (fun d e g h=>bB k d e g h)
theorem ash:ak Pg 163 8 ⟨kz,Yr xO⟩:=iP ek9 aCm (ah Tryz.func163 (by kernel_rfl)) aEG fun _ _=>by kernel_rfl
end
end Go.AM.K
