/- Printed by KGen. -/
import Derived.Test.YtmcplmhohldpjaaGreatRe
import Derived.Test.YtmcplmhohldpjaaGreatRw
namespace Go.AM.K
open Go.Proofs
set_option maxRecDepth 100000
set_option linter.unusedVariables false
noncomputable section
abbrev nt4:Nat:=159
def sh4:SG:=[(23,[.sl]),(28,[.sl]),(34,iT),(43,[.sl,.sl,.int .i64,.int .i64,.int .i64]),(50,[.sl,.sl,.int .i64,.int .i64,.int .i64]),(66,[.sl]),(73,[.sl]),(77,[.sl]),(80,iS 2),(96,iT),(97,iT),(99,[.sl]),(106,[.sl]),(109,iT),(110,iT),(112,[.sl]),(115,iS 5),(116,iS 5),(118,iS 2),(120,iT),(123,iS 2),(125,iT),(130,[.sl]),(131,iS 5),(136,[.sl,.sl,.int .i64,.int .i64])]
def tr4:TG:=[tT 0 [1,3,5],tT 1 [1,3,5,21],tT 2 [6],tT 3 [1,3,5,41],tT 4 [6],tT 5 [1,3,5,8],tT 6 [1,3,5,48],tT 7 [6],tT 8 [1,3,5,9,10],tT 9 [1,3,5,9,10,56],tT 10 [6],tT 11 [1,3,5,9,11],tT 12 [3,5,9,11,12],tT 13 [3,5,9,11,12,71],tT 14 [3,5,11,12],tT 15 [3,5,11,12,13],tT 16 [3,5,11,12,13,14],tT 17 [3,5,11,12,13,14,89],tT 19 [3,5,11,12,13,14,104],tT 20 [6],tT 21 [3,5,11,12,13,14,15],tT 22 [3,5,11,12,13,14,15],tT 23 [3,5,11,12,13,14],tT 18 [3,5,11,12,13,14],tT 24 [11,16,19],tT 25 [6]]
def tl4:TG:=[(17,⟨[3,5,11,12,13,14],true,[⟨false,12,0,20012,1⟩,⟨true,3,0,30300,9⟩,⟨true,3,1,30301,5⟩,⟨true,9,0,30900,1⟩,⟨true,9,1,30901,1⟩,⟨true,9,2,30902,3⟩,⟨true,13,0,31300,9⟩,⟨true,13,1,31301,5⟩],[]⟩)]
def ac4:au:=aB Pg Tryz.f4 tr4 tl4
def zc:OT:=tdC (ah.sub [1,1,1,1,1,1,1,1,1,1,0,1,0] (emb ac4))
def I3:PT St:=pS [sY 1 dL,sP 3,sP 5,sY 48 dB] [az 3 [(cD dL),(cD dL),xI,xI,xI],az 5 [xI,xI]]
def auw {β:Type}(g:St->β):ae->Bool->ae->ae->I5 β:=I3.unc g
def akf:PT St:=pS [sY 1 dL,sP 3,sP 5,sP 9,sI 10] [az 3 [(cD dL),(cD dL),xI,xI,xI],az 5 [xI,xI],az 9 [(bL 52),(bL 10052),(bL 20052)],bM 52 1,bM 10052 1,bM 20052 3]
def akQ {β:Type}(g:St->β):ae->Int->ae->ae->Int->Int->Int->Int->Int->ae->ae->ae->β:=akf.unc g
def alC:PT St:=pS [sY 1 dL,sP 3,sP 5,sP 9,sI 10] [az 3 [(cD dL),(cD dL),xI,xI,xI],az 5 [xI,xI],az 9 [(cD dL),(cD dL),(bL 20052)],bM 20052 3]
def aio {β:Type}(g:St->β):ae->Int->ae->ae->Int->Int->Int->Int->Int->ae->ae->ae->β:=alC.unc g
def Kb:PT St:=pS [sP 3,sP 5,sP 9,sY 11 dB,sl 12 (aV false [(bL 70)])] [az 3 [(cD dL),(cD dL),xI,xI,xI],az 5 [xI,xI],az 9 [(bL 52),(bL 10052),(bL 20052)],bM 52 1,bM 10052 1,bM 20052 3,bM 70 1]
def auo {β:Type}(g:St->β):Bool->ae->ae->Int->Int->Int->Int->Int->ae->ae->ae->ae->β:=Kb.unc g
def akj:PT St:=pS [sP 3,sP 5,sY 11 dB,sl 12 (aV false [(bL 74)])] [az 3 [(cD dL),(cD dL),xI,xI,xI],az 5 [xI,xI],bM 74 1]
def TM {β:Type}(g:St->β):Bool->ae->ae->Int->Int->Int->Int->Int->ae->β:=akj.unc g
def aiG:PT St:=pS [sP 3,sP 5,sP 9,sY 11 dB,sl 12 (aV false [(bL 70)]),sY 71 dB] [az 3 [(cD dL),(cD dL),xI,xI,xI],az 5 [xI,xI],az 9 [(bL 52),(bL 10052),(bL 20052)],bM 52 1,bM 10052 1,bM 20052 3,bM 70 1]
def akz {β:Type}(g:St->β):Bool->Bool->ae->ae->Int->Int->Int->Int->Int->ae->ae->ae->ae->β:=aiG.unc g
def F4:PT St:=pS [sP 3,sP 5,sY 11 dB,sl 12 (aV false [(bL 20012)]),sP 13,sI 14,sY 89 dB] [az 3 [(cD dL),(cD dL),xI,xI,xI],az 5 [xI,xI],bM 20012 1,az 13 [(bL 31300),(bL 31301),xI,xI],bM 31300 9,bM 31301 5]
def ET {β:Type}(g:St->β):Bool->Int->Bool->ae->ae->Int->Int->Int->Int->Int->ae->Int->Int->ae->ae->β:=F4.unc g
def ajo:PT St:=pS [sY 6 dB] []
def AS {β:Type}(g:St->β):Bool->β:=ajo.unc g
def akv:PT St:=pS [sP 3,sP 5,sY 11 dB,sl 12 (aV false [(bL 20012)]),sP 13,sI 14,sY 104 dB] [az 3 [(cD dL),(cD dL),xI,xI,xI],az 5 [xI,xI],bM 20012 1,az 13 [(bL 31300),(bL 31301),xI,xI],bM 31300 9,bM 31301 5]
def ame {β:Type}(g:St->β):Bool->Int->Bool->ae->ae->Int->Int->Int->Int->Int->ae->Int->Int->ae->ae->β:=akv.unc g
def JM:PT St:=pS [sP 3,sP 5,sY 11 dB,sl 12 (aV false [(bL 20012)]),sP 13,sI 14] [az 3 [(cD dL),(cD dL),xI,xI,xI],az 5 [xI,xI],bM 20012 1,az 13 [(bL 31300),(bL 31301),xI,xI],bM 31300 9,bM 31301 5]
def Jo {β:Type}(g:St->β):Bool->Int->ae->ae->Int->Int->Int->Int->Int->ae->Int->Int->ae->ae->β:=JM.unc g
def D5:PT St:=pS [sP 3,sP 5,sP 9,sY 11 dB,sl 12 (aV false [(bL 70)])] [az 3 [(cD dL),(cD dL),xI,xI,xI],az 5 [xI,xI],az 9 [(cD dL),(cD dL),(bL 20052)],bM 20052 3,bM 70 1]
def arq {β:Type}(g:St->β):Bool->ae->ae->Int->Int->Int->Int->Int->ae->ae->ae->ae->β:=D5.unc g
def agm:PT St:=pS [sP 3,sP 5,sP 9,sY 11 dB,sl 12 (aV false [(bL 70)]),sY 71 dB] [az 3 [(cD dL),(cD dL),xI,xI,xI],az 5 [xI,xI],az 9 [(cD dL),(cD dL),(bL 20052)],bM 20052 3,bM 70 1]
def afR {β:Type}(g:St->β):Bool->Bool->ae->ae->Int->Int->Int->Int->Int->ae->ae->ae->ae->β:=agm.unc g
noncomputable abbrev apk:List bC:=⟨6,nt6,[⟨ahP,ag1 akF⟩]⟩::⟨15,65,[⟨mi,Ud BO⟩]⟩::⟨8,29,[⟨lq,ahe BI⟩]⟩::ajI
theorem atA:bF apk fun c=>bF c.l (al Pg c.f c.nt):=⟨⟨apO,TT⟩,⟨aiE,TT⟩,⟨ard,TT⟩,aqr⟩
def EG:aE:=aE.ofIO apk bG io0
theorem arM:EG.Ok Pg:=aE.ofIO_ok aP atA
def aef:ah:=ah.sub [1,1,1,1,1,1,1,1,1,1,0,1,0,0,1,0,0,0] (emb ac4)
abbrev Mx:Type 1:=(α:Type)->Bool->Int->ae->ae->(Op α)->(Bool->Op α)->Op α
def Nj (α:Type)(d:Bool)(a:Int)(e b:ae)(k1:Op α)(k2:Bool->Op α):Op α:=
 cK d
 (ixK b a 1
 (ldK b (Int.toNat a) 0 [.int .i64]
 (fun g=>iq α g 0 (w64 (((List.length e:Nat):Int) - 1))
 (fun c=>cK (!c)
 (k1)
 (k2 (!c))))))
 (k2 false)
def uS:Mx:=sld Nj
def JZ (v:Mx)(α:Type)(K:KT α):Bool->Int->Bool->ae->ae->Int->Int->Int->Int->Int->ae->Int->Int->ae->ae->Op α:=fun a b s e c g h i j l d m o p q=>v α a b c d (AS (K .ret) false) (fun r=>ame (K .normal) a b r e c g h i j l d m o p q)
theorem ale:∀ (α:Type) (K:KT α),JZ uS α K=F4.unc fun σ=>aF Pg EG sh4 aef K σ:=bR (fun α K=>by kernel_rfl)
def xU:ah:=ah.sub [1,1,1,1,1,1,1,1,1,1,0,1,0,0] (ah.put (.m [⟨F4,JZ uS⟩]) [1,1,1,1,1,1,1,1,1,1,0,1,0,0,1,0,0] (emb ac4))
def AT (α:Type)(l:Bool)(d:ae)(m o:Int)(b:ae)(a:Int)(c:ae)(kn:Int->ae->Op α)(k1:Op α)(k2:Int->Bool->ae->Op α):Op α:=
 cK (decide (a < ((List.length b:Nat):Int)))
 (cK (decide (a < 3))
 (uS α l a d b
 (k1)
 (fun z=>ixK b a 1
 (ldK b (Int.toNat a) 0 [.int .i64]
 (fun p=>Cu α p ((List.length d:Nat):Int)
 (fun q=>gI d q [.int .i64,.int .i64,.int .i64,.int .i64,.int .i64]
 (fun r s t w e=>C5 α r s m
 (fun g h=>C5 α t w o
 (fun i j=>gK (dv 5 40 c [[DC.v (.int .i64 g),DC.v (.int .i64 h),DC.v (.int .i64 i),DC.v (.int .i64 j),DC.v (.int .i64 e)]]) (kn (w64 (a+1)) (c++[[DC.v (.int .i64 g),DC.v (.int .i64 h),DC.v (.int .i64 i),DC.v (.int .i64 j),DC.v (.int .i64 e)]]))))))))))
 (k2 a (decide (a < 3)) c))
 (k2 a false c)
def qC (α:Type)(a:Bool)(b:ae)(c d:Int)(e:ae)(k1:Op α)(k2:Int->Bool->ae->Op α):Nat->Int->ae->Op α
 | 0,_,_=>none
 | n+1,g,h=>AT α a b c d e g h (qC α a b c d e k1 k2 n) k1 k2
def Nx (α:Type)(a:Bool)(b:ae)(c d:Int)(e:ae)(k1:Op α)(k2:Int->Bool->ae->Op α)(g:Int)(h:ae):Op α:=qC α a b c d e k1 k2 aN g h
abbrev Pe:Type 1:=(α:Type)->Bool->ae->Int->Int->ae->(Op α)->(Int->Bool->ae->Op α)->Int->ae->Op α
def nk:Pe:=sld Nx
def aaf (v:Pe)(α:Type)(K:KT α):Bool->Int->ae->ae->Int->Int->Int->Int->Int->ae->Int->Int->ae->ae->Op α:=fun a g h b i j l c d e m o p q=>v α a b c d e (AS (K .ret) false) (fun r s t=>ET (K (.exit 0)) a r s h b i j l c d e m o p t) g q
theorem ajw (α:Type)(K:KT α)(Kn:SK α)(a:Bool)(b:Int)(i c:ae)(j l m d e:Int)(g:ae)(o p:Int)(q h:ae):Jo (fun σ=>aF Pg EG sh4 xU (cX (fun σ=>bW zc σ Kn) K) σ) a b i c j l m d e g o p q h=AT α a c d e g b h (fun b h=>Jo Kn a b i c j l m d e g o p q h) (AS (K .ret) false) (fun r s t=>ET (K (.exit 0)) a r s i c j l m d e g o p q t):=by kernel_rfl
theorem akS (α:Type)(K:KT α):∀ (n:Nat) (a:Bool) (g:Int) (i b:ae) (j l m c d:Int) (e:ae) (o p:Int) (q h:ae),qC α a b c d e (AS (K .ret) false) (fun r s t=>ET (K (.exit 0)) a r s i b j l m c d e o p q t) n g h=Jo (aS (aF Pg EG sh4 xU) zc K n) a g i b j l m c d e o p q h:=by
 intro n
 induction n with
 | zero=>intros;rfl
 | succ n ih=>intro a g i b j l m c d e o p q h;exact (congrArg (fun kn=>AT α a b c d e g h kn (AS (K .ret) false) (fun r s t=>ET (K (.exit 0)) a r s i b j l m c d e o p q t)) (funext fun g=>funext fun h=>ih a g i b j l m c d e o p q h)).trans (ajw α K (aS (aF Pg EG sh4 xU) zc K n) a g i b j l m c d e o p q h).symm
theorem alJ:∀ (α:Type) (K:KT α),aaf nk α K=JM.unc fun σ=>aS (aF Pg EG sh4 xU) zc K aN σ:=bR (fun α K=>funext fun a=>funext fun b=>funext fun c=>funext fun d=>funext fun e=>funext fun g=>funext fun h=>funext fun i=>funext fun j=>funext fun l=>funext fun m=>funext fun o=>funext fun p=>funext fun q=>akS α K aN a b c d e g h i j l m o p q)
def PM:ah:=ah.sub [1,1,1,1,1,1,1,1,0] (emb ac4)
abbrev w8:Type 1:=(α:Type)->Bool->ae->(ae->Op α)->(Op α)->Op α
def abm (α:Type)(b:Bool)(c:ae)(k1:ae->Op α)(k2:Op α):Op α:=
 cK b
 (vX α c
 (fun a=>tA [a]
 (k1 a)))
 (k2)
def Jk:w8:=sld abm
def Wr (v:w8)(α:Type)(K:KT α):Bool->ae->ae->Int->Int->Int->Int->Int->ae->ae->ae->ae->Op α:=fun a b c d e g h i j l m o=>v α a j (fun p=>TM (K .normal) a b c d e g h i p) (akz (K .normal) a a b c d e g h i j l m o)
theorem ajX:∀ (α:Type) (K:KT α),Wr Jk α K=Kb.unc fun σ=>aF Pg EG sh4 PM K σ:=bR (fun α K=>by kernel_rfl)
def Ny (α:Type)(a:Bool)(b:ae)(k1:ae->Op α)(k2:Op α):Op α:=
 cK a
 (vX α b
 (fun c=>k1 c))
 (k2)
def Ej:w8:=sld Ny
def U0 (v:w8)(α:Type)(K:KT α):Bool->ae->ae->Int->Int->Int->Int->Int->ae->ae->ae->ae->Op α:=fun a b c d e g h i j l m o=>v α a j (fun p=>TM (K .normal) a b c d e g h i p) (afR (K .normal) a a b c d e g h i j l m o)
theorem ama:∀ (α:Type) (K:KT α),U0 Ej α K=D5.unc fun σ=>aF Pg EG sh4 PM K σ:=bR (fun α K=>by kernel_rfl)
def afr:ah:=ah.sub [1,1,1,1,0] (emb ac4)
def PJ (α:Type)(a b:ae)(c d e:Int)(k1:Int->Op α)(k2:ae->ae->ae->Op α):Op α:=
 H8 α a b
 (fun g h=>BO α g h c d e
 (fun i=>tA [([]:ae),([]:ae),([]:ae)]
 (k1 i))
 (fun j l m=>k2 j l m))
def ER:Ey:=sld PJ
def S4 (v:Ey)(α:Type)(K:KT α):ae->Bool->ae->ae->I5 (Op α):=fun h o a b c d e i j=>v α a b c d e (fun g=>akQ (K .normal) h g a b c d e i j ([]:ae) ([]:ae) ([]:ae)) (fun g l m=>aio (K .normal) h 0 a b c d e i j g l m)
theorem ajh:∀ (α:Type) (K:KT α),S4 ER α K=I3.unc fun σ=>aF Pg EG sh4 afr K σ:=bR (fun α K=>by kernel_rfl)
abbrev ahh:Type 1:=(α:Type)->ae->ae->Int->Int->Int->ae->Int->Int->(Bool->Op α)->Op α
def agX (α:Type)(b d:ae)(e g j:Int)(a:ae)(h i:Int)(k1:Bool->Op α):Op α:=
 akF α
 (cK (((List.length b:Nat):Int) != 1)
 (k1 true)
 (cK (decide (2 < ((List.length d:Nat):Int)))
 (k1 true)
 (cK (decide (2 < j))
 (k1 true)
 (cK (decide (2 < ((List.length a:Nat):Int)))
 (k1 true)
 (Dv α b d e g j
 (fun J r=>cK (r != 0)
 (k1 true)
 (ER α b d e g j
 (fun l=>cK (l != 0)
 (cK (l == 23)
 (k1 true)
 (k1 (l == 17)))
 (vX α a
 (fun s=>Jk α (decide (0<=((List.length a:Nat):Int))) ([]:ae)
 (fun t=>gK (dv 9 72 ([]:ae) b) (nk α (decide (0<=((List.length a:Nat):Int))) d h i t
 (k1 false)
 (fun L M w=>BI α (([]:ae)++b) w e g
 (fun m N O P Q z=>cK (z == 0)
 (cK (decide (0<=((List.length a:Nat):Int)))
 (cK (m != 0)
 (k1 true)
 (cK (!(decide (0<=((List.length a:Nat):Int))))
 (k1 (m != 2))
 (k1 false)))
 (cK (!(decide (0<=((List.length a:Nat):Int))))
 (k1 (m != 2))
 (k1 false)))
 (k1 false))) 0 ([]:ae)))
 (gK (dv 9 72 ([]:ae) b) (nk α (decide (0<=((List.length a:Nat):Int))) d h i s
 (k1 false)
 (fun R T A=>BI α (([]:ae)++b) A e g
 (fun o U V W X B=>cK (B == 0)
 (cK (decide (0<=((List.length a:Nat):Int)))
 (cK (o != 0)
 (k1 true)
 (cK (!(decide (0<=((List.length a:Nat):Int))))
 (k1 (o != 2))
 (k1 false)))
 (cK (!(decide (0<=((List.length a:Nat):Int))))
 (k1 (o != 2))
 (k1 false)))
 (k1 false))) 0 ([]:ae))))))
 (fun c Y Z=>vX α a
 (fun C=>Ej α (decide (((List.length c:Nat):Int)<=((List.length a:Nat):Int))) c
 (fun D=>gK (dv 9 72 ([]:ae) b) (nk α (decide (((List.length c:Nat):Int)<=((List.length a:Nat):Int))) d h i D
 (k1 false)
 (fun a0 a1 F=>BI α (([]:ae)++b) F e g
 (fun p a2 a3 a4 a5 G=>cK (G == 0)
 (cK (decide (((List.length c:Nat):Int)<=((List.length a:Nat):Int)))
 (cK (p != 0)
 (k1 true)
 (cK (!(decide (((List.length c:Nat):Int)<=((List.length a:Nat):Int))))
 (k1 (p != 2))
 (k1 false)))
 (cK (!(decide (((List.length c:Nat):Int)<=((List.length a:Nat):Int))))
 (k1 (p != 2))
 (k1 false)))
 (k1 false))) 0 ([]:ae)))
 (gK (dv 9 72 ([]:ae) b) (nk α (decide (((List.length c:Nat):Int)<=((List.length a:Nat):Int))) d h i C
 (k1 false)
 (fun a6 a7 H=>BI α (([]:ae)++b) H e g
 (fun q a8 a9 b0 b1 I=>cK (I == 0)
 (cK (decide (((List.length c:Nat):Int)<=((List.length a:Nat):Int)))
 (cK (q != 0)
 (k1 true)
 (cK (!(decide (((List.length c:Nat):Int)<=((List.length a:Nat):Int))))
 (k1 (q != 2))
 (k1 false)))
 (cK (!(decide (((List.length c:Nat):Int)<=((List.length a:Nat):Int))))
 (k1 (q != 2))
 (k1 false)))
 (k1 false))) 0 ([]:ae))))))))))))
def UH:ahh:=sld agX
def aht:PT (List DV):=pA [pV true [dL,dL,(dI .i64),(dI .i64),(dI .i64)],pV false [dL],pV true [(dI .i64),(dI .i64)]]
def ahb (v:ahh)(α:Type)(k:RT α):ae->ae->Int->Int->Int->ae->Int->Int->Op α:=fun a b c d e g h i=>v α a b c d e g h i (fun j=>bA k j)
def anN:ah:=(ah.put (.m [⟨I3,S4 ER⟩]) [1,1,1,1] (ah.put (.m [⟨Kb,Wr Jk⟩,⟨D5,U0 Ej⟩]) [1,1,1,1,1,1,1,1] (ah.put (.m [⟨JM,aaf nk⟩]) [1,1,1,1,1,1,1,1,1,1,0,1,0] (ah.put (.m [⟨F4,JZ uS⟩]) [1,1,1,1,1,1,1,1,1,1,0,1,0,0,1,0,0] (emb ac4)))))
theorem aql:al Pg 4 nt4 ⟨aht,ahb UH⟩:=iZ arM (ag Tryz.func4 (by kernel_rfl)) sh4 anN ((aA _ _).trans ((aA _ _).trans ((aA _ _).trans ((aA _ _).trans (aG _))))) (bc (by kernel_rfl) (bc (by kernel_rfl) (bK (td:=zc) (by kernel_rfl) (bc (by kernel_rfl) (aK ac4) ⟨ale,TT⟩) ⟨alJ,TT⟩) ⟨ajX,ama,TT⟩) ⟨ajh,TT⟩) fun _ _=>by kernel_rfl
end
end Go.AM.K
