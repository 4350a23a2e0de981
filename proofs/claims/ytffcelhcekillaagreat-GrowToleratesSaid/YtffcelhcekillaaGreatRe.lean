/- Printed by KGen. -/
import Derived.Test.YtffcelhcekillaaGreatRd
namespace Go.AM.K
open Go.Proofs
set_option maxRecDepth 100000
set_option linter.unusedVariables false
noncomputable section
def xm:SG:=[(16,[.sl]),(20,[.sl]),(24,iS 3),(25,iS 3),(27,iT),(32,iT),(38,iT),(44,[.sl]),(47,[.sl]),(51,[.sl]),(55,iS 2),(56,iS 2),(57,iS 2),(64,iT),(68,[.sl]),(73,iS 2),(74,iS 2),(76,[.sl]),(78,iS 3),(79,iS 3),(82,iT),(84,iT),(86,iS 2),(88,iT),(95,[.sl]),(97,[.sl]),(101,iT)]
def aIR:TG:=[tT 0 [1],tT 1 [1,18],(2,⟨[2,3],true,[⟨false,2,0,20002,5⟩],[]⟩),tT 3 [1,20,21,22],tT 4 [1,20,21,22,23],tT 5 [1,5,20,21,22],tT 6 [1,20,21,22,41],(7,⟨[2,3],true,[⟨false,2,0,20002,5⟩],[]⟩),tT 8 [1,20,21,22],tT 9 [1,49],(10,⟨[2,3],true,[⟨false,2,0,20002,5⟩],[]⟩),tT 11 [1,51,52,53],tT 12 [1,51,52,53,54],tT 13 [1,7,51,52,53],tT 14 [1,8,51,52,53],tT 15 [1,8,51,52,53,60],(16,⟨[2,3],true,[⟨false,2,0,20002,5⟩],[]⟩),tT 17 [1,51,52,53],tT 18 [1,66],(19,⟨[2,3],true,[⟨false,2,0,20002,5⟩],[]⟩),tT 20 [1,9],tT 21 [1,9,68,69,70],tT 22 [1,9,68,69,70,71],tT 23 [1,9,10,11,68,69,70],tT 24 [1,9,11,12,68,69,70],tT 25 [1,9,68,69,70],tT 26 [1,9,68,69,70],tT 27 [9,13,14],tT 28 [9,13,14,106],(29,⟨[2,3],true,[⟨false,2,0,20002,5⟩],[]⟩),(30,⟨[2,3],true,[⟨false,2,0,20002,5⟩],[]⟩)]
def aK9:TG:=[(4,⟨[1,20,21,22],true,[⟨false,20,0,20020,3⟩,⟨true,1,0,30100,3⟩,⟨true,1,1,30101,2⟩,⟨true,1,3,30103,9⟩],[]⟩),(12,⟨[1,51,52,53],true,[⟨false,51,0,20051,2⟩,⟨true,1,0,30100,3⟩,⟨true,1,1,30101,2⟩,⟨true,1,3,30103,9⟩],[]⟩),(22,⟨[1,9,68,69,70],true,[⟨false,9,0,20009,5⟩,⟨false,68,0,20068,2⟩,⟨true,1,0,30100,3⟩,⟨true,1,1,30101,2⟩,⟨true,1,3,30103,9⟩],[]⟩)]
def NI:aq:=aw Pg Tryz.f14 aIR aK9
def vT:OT:=tdC (ag.sub [1,1,0,1,0] (emb NI))
def tz:OT:=tdC (ag.sub [1,1,1,1,0,1,0] (emb NI))
def vF:OT:=tdC (ag.sub [1,1,1,1,1,1,1,0,1,0] (emb NI))
def Kf:PT St:=pS [sP 1,sl 20 (aV false [(cD dL)]),sI 21,sI 22] [au 1 [(cD dL),(cD dL),xI,(cD dL),xI,xI]]
def JX {β:Type}(g:St->β):ae->Int->Int->ae->ae->Int->ae->Int->Int->β:=Kf.unc g
def anF:PT St:=pS [sP 1,sl 20 (aV false [(cD dL)]),sI 21,sI 22,sl 23 (aV false [(cD dB)])] [au 1 [(cD dL),(cD dL),xI,(cD dL),xI,xI]]
def zT {β:Type}(g:St->β):ae->Int->Int->Bool->ae->ae->Int->ae->Int->Int->β:=anF.unc g
def I3:PT St:=pS [sP 1,sl 51 (aV false [(cD dL)]),sI 52,sI 53] [au 1 [(cD dL),(cD dL),xI,(cD dL),xI,xI]]
def KG {β:Type}(g:St->β):ae->Int->Int->ae->ae->Int->ae->Int->Int->β:=I3.unc g
def asl:PT St:=pS [sP 1,sl 51 (aV false [(cD dL)]),sI 52,sI 53,sl 54 (aV false [(cD dB)])] [au 1 [(cD dL),(cD dL),xI,(cD dL),xI,xI]]
def A6 {β:Type}(g:St->β):ae->Int->Int->Bool->ae->ae->Int->ae->Int->Int->β:=asl.unc g
def Id:PT St:=pS [sP 1,sl 9 (aV false [(ej 20009)]),sl 68 (aV false [(cD dL)]),sI 69,sI 70] [au 1 [(cD dL),(cD dL),xI,(cD dL),xI,xI],ei 20009 5]
def IX {β:Type}(g:St->β):ae->Int->Int->ae->ae->Int->ae->Int->Int->ae->β:=Id.unc g
def aqr:PT St:=pS [sP 1,sl 9 (aV false [(ej 20009)]),sl 68 (aV false [(cD dL)]),sI 69,sI 70,sl 71 (aV false [(cD dB)])] [au 1 [(cD dL),(cD dL),xI,(cD dL),xI,xI],ei 20009 5]
def Ak {β:Type}(g:St->β):ae->Int->Int->Bool->ae->ae->Int->ae->Int->Int->ae->β:=aqr.unc g
def uR:ag:=ag.sub [1,1,1,1,1,1,1,0,1,0,0] (emb NI)
def wX (α:Type)(i:ae)(d:Int)(j:ae)(a:Int)(c:ae)(kn:Int->ae->Op α)(k1:Int->Bool->ae->Op α):Op α:=
 cK (decide (a < d))
 (dG i a [.int .i64,.int .i64]
 (fun e g=>dG j a [.int .i64,.int .i64,.int .i64]
 (fun b h l=>gK (cy 5 40 c [[DC.v (.int .i64 b),DC.v (.int .i64 b),DC.v (.int .i64 e),DC.v (.int .i64 g),DC.v (.int .i64 h)]]) (kn (w64 (a+1)) (c++[[DC.v (.int .i64 b),DC.v (.int .i64 b),DC.v (.int .i64 e),DC.v (.int .i64 g),DC.v (.int .i64 h)]])))))
 (k1 a (decide (a < d)) c)
def mp (α:Type)(a:ae)(b:Int)(c:ae)(k1:Int->Bool->ae->Op α):Nat->Int->ae->Op α
 | 0,_,_=>none
 | n+1,d,e=>wX α a b c d e (mp α a b c k1 n) k1
def OH (α:Type)(a:ae)(b:Int)(c:ae)(k1:Int->Bool->ae->Op α)(d:Int)(e:ae):Op α:=mp α a b c k1 aF d e
abbrev LJ:Type 1:=(α:Type)->ae->Int->ae->(Int->Bool->ae->Op α)->Int->ae->Op α
def Ah:LJ:=sld OH
def TL (v:LJ)(α:Type)(K:KT α):ae->Int->Int->ae->ae->Int->ae->Int->Int->ae->Op α:=fun a b d c e g h i j l=>v α a b c (fun m o p=>Ak (K (.exit 4)) a b m o c e g h i j p) d l
theorem amX (α:Type)(K:KT α)(Kn:SK α)(a:ae)(b c:Int)(d g:ae)(h:Int)(i:ae)(j l:Int)(e:ae):IX (fun σ=>az Pg Ek4 xm uR (bK (fun σ=>bq vF σ Kn) K) σ) a b c d g h i j l e=wX α a b d c e (fun c e=>IX Kn a b c d g h i j l e) (fun m o p=>Ak (K (.exit 4)) a b m o d g h i j l p):=by kernel_rfl
theorem anp (α:Type)(K:KT α):∀ (n:Nat) (a:ae) (b d:Int) (c g:ae) (h:Int) (i:ae) (j l:Int) (e:ae),mp α a b c (fun m o p=>Ak (K (.exit 4)) a b m o c g h i j l p) n d e=IX (aJ (az Pg Ek4 xm uR) vF K n) a b d c g h i j l e:=by
 intro n
 induction n with
 | zero=>intros;rfl
 | succ n ih=>intro a b d c g h i j l e;exact (congrArg (fun kn=>wX α a b c d e kn (fun m o p=>Ak (K (.exit 4)) a b m o c g h i j l p)) (funext fun d=>funext fun e=>ih a b d c g h i j l e)).trans (amX α K (aJ (az Pg Ek4 xm uR) vF K n) a b d c g h i j l e).symm
theorem atX:∀ (α:Type) (K:KT α),TL Ah α K=Id.unc fun σ=>aJ (az Pg Ek4 xm uR) vF K aF σ:=aZ (fun α K=>funext fun a=>funext fun b=>funext fun c=>funext fun d=>funext fun e=>funext fun g=>funext fun h=>funext fun i=>funext fun j=>funext fun l=>anp α K aF a b c d e g h i j l)
def uH:ag:=ag.sub [1,1,1,1,0,1,0,0] (emb NI)
def tQ (α:Type)(d:ae)(b a:Int)(kn:Int->Op α)(k1:Int->Op α)(k2:Int->Bool->Op α):Op α:=
 cK (decide (a < b))
 (dG d a [.int .i64,.int .i64]
 (fun e g=>M1 α e g 0 1000000
 (fun c=>cK (c != 0)
 (k1 c)
 (kn (w64 (a+1))))))
 (k2 a (decide (a < b)))
def qQ (α:Type)(a:ae)(b:Int)(k1:Int->Op α)(k2:Int->Bool->Op α):Nat->Int->Op α
 | 0,_=>none
 | n+1,c=>tQ α a b c (qQ α a b k1 k2 n) k1 k2
def OG (α:Type)(a:ae)(b:Int)(k1:Int->Op α)(k2:Int->Bool->Op α)(c:Int):Op α:=qQ α a b k1 k2 aF c
abbrev Ol:Type 1:=(α:Type)->ae->Int->(Int->Op α)->(Int->Bool->Op α)->Int->Op α
def zD:Ol:=sld OG
def YY (v:Ol)(α:Type)(K:KT α):ae->Int->Int->ae->ae->Int->ae->Int->Int->Op α:=fun b c d e g h i j l=>v α b c (fun a=>cU (K .ret) a ([]:ae)) (fun a m=>A6 (K (.exit 2)) b c a m e g h i j l) d
theorem atd (α:Type)(K:KT α)(Kn:SK α)(a:ae)(b c:Int)(d e:ae)(g:Int)(h:ae)(i j:Int):KG (fun σ=>az Pg Ek4 xm uH (bK (fun σ=>bq tz σ Kn) K) σ) a b c d e g h i j=tQ α a b c (fun c=>KG Kn a b c d e g h i j) (fun l=>cU (K .ret) l ([]:ae)) (fun l m=>A6 (K (.exit 2)) a b l m d e g h i j):=by kernel_rfl
theorem apA (α:Type)(K:KT α):∀ (n:Nat) (a:ae) (b c:Int) (e g:ae) (h:Int) (i:ae) (j l:Int),qQ α a b (fun d=>cU (K .ret) d ([]:ae)) (fun d m=>A6 (K (.exit 2)) a b d m e g h i j l) n c=KG (aJ (az Pg Ek4 xm uH) tz K n) a b c e g h i j l:=by
 intro n
 induction n with
 | zero=>intros;rfl
 | succ n ih=>intro a b c e g h i j l;exact (congrArg (fun kn=>tQ α a b c kn (fun d=>cU (K .ret) d ([]:ae)) (fun d m=>A6 (K (.exit 2)) a b d m e g h i j l)) (funext fun c=>ih a b c e g h i j l)).trans (atd α K (aJ (az Pg Ek4 xm uH) tz K n) a b c e g h i j l).symm
theorem amI:∀ (α:Type) (K:KT α),YY zD α K=I3.unc fun σ=>aJ (az Pg Ek4 xm uH) tz K aF σ:=aZ (fun α K=>funext fun a=>funext fun b=>funext fun c=>funext fun d=>funext fun e=>funext fun g=>funext fun h=>funext fun i=>funext fun j=>apA α K aF a b c d e g h i j)
def wA:ag:=ag.sub [1,1,0,1,0,0] (emb NI)
def tu (α:Type)(c:ae)(b a:Int)(kn:Int->Op α)(k1:Op α)(k2:Int->Bool->Op α):Op α:=
 cK (decide (a < b))
 (dG c a [.int .i64,.int .i64,.int .i64]
 (fun d e g=>oQ α d 5000 80000
 (fun h=>cK (!h)
 (k1)
 (oQ α e 0 80000
 (fun i=>cK (!i)
 (k1)
 (oQ α g 0 1000000
 (fun j=>cK (!j)
 (k1)
 (kn (w64 (a+1))))))))))
 (k2 a (decide (a < b)))
def p7 (α:Type)(a:ae)(b:Int)(k1:Op α)(k2:Int->Bool->Op α):Nat->Int->Op α
 | 0,_=>none
 | n+1,c=>tu α a b c (p7 α a b k1 k2 n) k1 k2
def K0 (α:Type)(a:ae)(b:Int)(k1:Op α)(k2:Int->Bool->Op α)(c:Int):Op α:=p7 α a b k1 k2 aF c
def zS:wz:=sld K0
def Y4 (v:wz)(α:Type)(K:KT α):ae->Int->Int->ae->ae->Int->ae->Int->Int->Op α:=fun a b c d e g h i j=>v α a b (cU (K .ret) 2 ([]:ae)) (fun l m=>zT (K (.exit 0)) a b l m d e g h i j) c
theorem asm (α:Type)(K:KT α)(Kn:SK α)(a:ae)(b c:Int)(d e:ae)(g:Int)(h:ae)(i j:Int):JX (fun σ=>az Pg Ek4 xm wA (bK (fun σ=>bq vT σ Kn) K) σ) a b c d e g h i j=tu α a b c (fun c=>JX Kn a b c d e g h i j) (cU (K .ret) 2 ([]:ae)) (fun l m=>zT (K (.exit 0)) a b l m d e g h i j):=by kernel_rfl
theorem aor (α:Type)(K:KT α):∀ (n:Nat) (a:ae) (b c:Int) (d e:ae) (g:Int) (h:ae) (i j:Int),p7 α a b (cU (K .ret) 2 ([]:ae)) (fun l m=>zT (K (.exit 0)) a b l m d e g h i j) n c=JX (aJ (az Pg Ek4 xm wA) vT K n) a b c d e g h i j:=by
 intro n
 induction n with
 | zero=>intros;rfl
 | succ n ih=>intro a b c d e g h i j;exact (congrArg (fun kn=>tu α a b c kn (cU (K .ret) 2 ([]:ae)) (fun l m=>zT (K (.exit 0)) a b l m d e g h i j)) (funext fun c=>ih a b c d e g h i j)).trans (asm α K (aJ (az Pg Ek4 xm wA) vT K n) a b c d e g h i j).symm
theorem auV:∀ (α:Type) (K:KT α),Y4 zS α K=Kf.unc fun σ=>aJ (az Pg Ek4 xm wA) vT K aF σ:=aZ (fun α K=>funext fun a=>funext fun b=>funext fun c=>funext fun d=>funext fun e=>funext fun g=>funext fun h=>funext fun i=>funext fun j=>aor α K aF a b c d e g h i j)
def alP (α:Type)(a b:ae)(c:Int)(k1:ae->Int->Op α):Op α:=
 cK (decide (40 < ((List.length a:Nat):Int)))
 (k1 ([]:ae) 8)
 (zS α a ((List.length a:Nat):Int)
 (k1 ([]:ae) 2)
 (fun j l=>cK (decide (((List.length a:Nat):Int) < ((List.length b:Nat):Int)))
 (k1 ([]:ae) 12)
 (zD α b ((List.length b:Nat):Int)
 (fun h=>k1 ([]:ae) h)
 (fun m o=>oQ α c 0 1000
 (fun i=>cK (!i)
 (k1 ([]:ae) 2)
 (Ah α b ((List.length b:Nat):Int) a
 (fun p q d=>gK (decide ((0:Int)<=((List.length b:Nat):Int)/\((List.length b:Nat):Int)<=(((List.length a:Nat):Int):Int)/\(((List.length a:Nat):Int):Int)<=((List.length a:Nat):Int)/\eS 3 a=true)) (MJ α (List.drop (Int.toNat ((List.length b:Nat):Int)) (List.take (Int.toNat ((List.length a:Nat):Int)) a)) c
 (fun e g=>cK (g != 0)
 (k1 ([]:ae) g)
 (gK (cy 5 40 d e) (k1 (d++e) 0))))) 0 ([]:ae)))) 0)) 0)
def Fm:I1:=sld alP
def alK (v:I1)(α:Type)(k:RT α):ae->ae->Int->ae->Int->Int->Op α:=fun a b c g h i=>v α a b c (fun d e=>Dx k d e)
def azf:ag:=(ag.put (.m [⟨Kf,Y4 zS⟩]) [1,1,0,1,0] (ag.put (.m [⟨I3,YY zD⟩]) [1,1,1,1,0,1,0] (ag.put (.m [⟨Id,TL Ah⟩]) [1,1,1,1,1,1,1,0,1,0] (emb NI))))
theorem awF:ak Pg 14 111 ⟨eM,alK Fm⟩:=iZ ek4 (ah Tryz.func14 (by kernel_rfl)) xm azf ((an _ _).trans ((an _ _).trans ((an _ _).trans (aA _)))) (aY (td:=vT) (by kernel_rfl) (aY (td:=tz) (by kernel_rfl) (aY (td:=vF) (by kernel_rfl) (aD NI) ⟨atX,trivial⟩) ⟨amI,trivial⟩) ⟨auV,trivial⟩) fun _ _=>by kernel_rfl
def aB1:SG:=[(4,iS 3),(7,iT),(9,iT),(13,iT),(15,iT)]
def aAB:TG:=[tT 0 [1,2],tT 1 [2,3],tT 2 [2]]
def aEa:aq:=aw Pg Tryz.f176 aAB aC
noncomputable abbrev Lk5:List bA:=⟨212,15,[⟨cT,Rz Jg⟩]⟩::⟨241,92,[⟨dS,Tk D7⟩]⟩::⟨249,37,[⟨ba,Wx g8⟩]⟩::⟨267,25,[⟨dS,RB Cp⟩]⟩::⟨266,70,[⟨dS,Zr DR⟩]⟩::⟨265,25,[⟨dS,Sw Bn⟩]⟩::⟨72,27,[⟨oU,aib Oe⟩]⟩::⟨73,37,[⟨acI,alI Gy⟩]⟩::⟨204,6,[⟨ba,Vi mV⟩]⟩::⟨282,42,[⟨aU,Wt iC⟩]⟩::⟨200,63,[⟨eW,SC mJ⟩]⟩::⟨226,39,[⟨eW,YD Ci⟩]⟩::⟨202,37,[⟨P9,QE EE⟩]⟩::⟨229,32,[⟨br,W0 BN⟩]⟩::⟨193,40,[⟨ba,Wi mF⟩]⟩::⟨93,107,[⟨eV,akn Fd⟩]⟩::⟨92,29,[⟨oU,ae9 HI⟩]⟩::⟨283,73,[⟨ba,SR xp⟩]⟩::⟨284,45,[⟨ba,Xl rU⟩]⟩::⟨270,30,[⟨br,UQ yL⟩]⟩::⟨210,95,[⟨cT,UM yM⟩]⟩::⟨215,32,[⟨ba,W8 r8⟩]⟩::⟨14,111,[⟨eM,alK Fm⟩]⟩::Lk4
theorem ak5:bG Lk5 fun c=>bG c.l (ak Pg c.f c.nt):=⟨⟨anO,trivial⟩,⟨ar0,trivial⟩,⟨asz,trivial⟩,⟨aot,trivial⟩,⟨anN,trivial⟩,⟨arx,trivial⟩,⟨azh,trivial⟩,⟨awk,trivial⟩,⟨aqt,trivial⟩,⟨amG,trivial⟩,⟨aom,trivial⟩,⟨ant,trivial⟩,⟨as5,trivial⟩,⟨amt,trivial⟩,⟨aro,trivial⟩,⟨ayJ,trivial⟩,⟨ayf,trivial⟩,⟨atI,trivial⟩,⟨arg,trivial⟩,⟨apI,trivial⟩,⟨ani,trivial⟩,⟨app,trivial⟩,⟨awF,trivial⟩,ak4⟩
def Ek5:aE:=aE.ofIO Lk5 bt io0
theorem ek5:Ek5.Ok Pg:=aE.ofIO_ok aN ak5
def Vr (α:Type)(c d e:Int)(k1:Int->Int->Op α):Op α:=
 Jg α c d e
 (fun a b=>dz α (w64 (a*a)) 1048576
 (fun g=>cq α (w64 (b*b)) 1048576
 (fun h=>k1 g h)))
def yq:fU:=sld Vr
def Vv (v:fU)(α:Type)(k:RT α):Int->Int->Int->Op α:=fun a b c=>v α a b c (fun d e=>bu k d e)
theorem ath:ak Pg 176 19 ⟨cT,Vv yq⟩:=iP ek5 aEa (ah Tryz.func176 (by kernel_rfl)) aB1 fun _ _=>by kernel_rfl
def S7:SG:=[(10,iT),(14,iS 3),(15,iS 3)]
def aEt:TG:=[tT 0 [0,4,5,6],tT 1 [0,4,5,6,11],tT 2 [0,6],tT 3 [0,6]]
def aB8:aq:=aw Pg Tryz.f206 aEt aC
abbrev kg:Type 1:=(α:Type)->Int->Int->Int->Int->Int->Int->Int->(I4 (Op α))->Op α
def Xp (α:Type)(a b c d e g h:Int)(k1:I4 (Op α)):Op α:=
 cK (a != 0)
 (k1 0 0 0 a)
 (D7 α b c d e g h
 (fun i j l m=>dt α a i j l m
 (fun o p q r=>k1 o p q r)))
def kQ:kg:=sld Xp
def ia:PT (List DV):=pA [pV false [(dMr [(dI .i64)] 0)],pV true [(dI .i64),(dI .i64),(dI .i64)],pV true [(dI .i64),(dI .i64),(dI .i64)]]
def Tn (v:kg)(α:Type)(k:RT α):I7 (Op α):=fun a b c d e g h=>v α a b c d e g h (fun i j l m=>ee k i j l m)
theorem as2:ak Pg 206 20 ⟨ia,Tn kQ⟩:=iP ek5 aB8 (ah Tryz.func206 (by kernel_rfl)) S7 fun _ _=>by kernel_rfl
def aBA:SG:=[(9,iS 2),(18,iT),(21,iT),(25,iT),(33,iT),(38,iT),(43,iT),(51,iS 3)]
def aDB:TG:=[tT 0 [1,2],tT 1 [1,2,5],tT 2 [1,2,5,14],tT 3 [2,3],tT 4 [1,2,19],tT 5 [2,3],tT 6 [1,2,34],tT 7 [2,3],tT 8 [2,6,7],tT 9 [2,3]]
def aDN:aq:=aw Pg Tryz.f211 aDB aC
def Y3 (α:Type)(a b:Int)(k1:I4 (Op α)):Op α:=
 g8 α a b
 (fun w z A c=>cK (c != 0)
 (k1 0 0 0 c)
 (cK (decide (0<=a))
 (de α (w64 (a*1048576))
 (fun d=>oA α (w64 (b*1048576))
 (fun e=>g8 α d e
 (fun g h i j=>k1 g h i j))))
 (cK (decide (0 < b))
 (k1 0 0 0 14)
 (de α (w64 ((w64 (0 - b))*1048576))
 (fun l=>oA α (w64 ((w64 (0 - a))*1048576))
 (fun m=>g8 α l m
 (fun o p q r=>rM α o p 1
 (fun s t=>k1 s t q r))))))))
def yb:j5:=sld Y3
def VX (v:j5)(α:Type)(k:RT α):Int->Int->Op α:=fun a b=>v α a b (fun c d e g=>bD k c d e g)
theorem aqj:ak Pg 211 54 ⟨ba,VX yb⟩:=iP ek5 aDN (ah Tryz.func211 (by kernel_rfl)) aBA fun _ _=>by kernel_rfl
def aBg:TG:=[tT 0 [0,4,5,6],tT 1 [0,4,5,6,11],tT 2 [0,6],tT 3 [0,6]]
def aFN:aq:=aw Pg Tryz.f240 aBg aC
def SO (α:Type)(a b c d e g h:Int)(k1:I4 (Op α)):Op α:=
 cK (a != 0)
 (k1 0 0 0 a)
 (Cp α b c d e g h
 (fun i j l m=>dt α a i j l m
 (fun o p q r=>k1 o p q r)))
def mw:kg:=sld SO
def V9 (v:kg)(α:Type)(k:RT α):I7 (Op α):=fun a b c d e g h=>v α a b c d e g h (fun i j l m=>ee k i j l m)
theorem aoG:ak Pg 240 20 ⟨ia,V9 mw⟩:=iP ek5 aFN (ah Tryz.func240 (by kernel_rfl)) S7 fun _ _=>by kernel_rfl
def aGE:TG:=[tT 0 [0,4,5,6],tT 1 [0,4,5,6,11],tT 2 [0,6],tT 3 [0,6]]
def aAk:aq:=aw Pg Tryz.f239 aGE aC
def P2 (α:Type)(a b c d e g h:Int)(k1:I4 (Op α)):Op α:=
 cK (a != 0)
 (k1 0 0 0 a)
 (DR α b c d e g h
 (fun i j l m=>dt α a i j l m
 (fun o p q r=>k1 o p q r)))
def ci:kg:=sld P2
def XV (v:kg)(α:Type)(k:RT α):I7 (Op α):=fun a b c d e g h=>v α a b c d e g h (fun i j l m=>ee k i j l m)
theorem ato:ak Pg 239 20 ⟨ia,XV ci⟩:=iP ek5 aAk (ah Tryz.func239 (by kernel_rfl)) S7 fun _ _=>by kernel_rfl
def aDG:SG:=[(8,iT),(11,iT),(14,iT),(17,iT)]
def aAp:TG:=[tT 0 [0,3,4],tT 1 [0,4,5,6],tT 2 [0,4]]
def aHY:aq:=aw Pg Tryz.f243 aAp aC
def Sb (α:Type)(b a c d:Int)(k1:I4 (Op α)):Op α:=
 dz α (w64 ((w64 (a*c))*1048576)) 100000000
 (fun e=>cq α (w64 ((w64 (a*d))*1048576)) 100000000
 (fun g=>g8 α e g
 (fun h i j l=>dt α b h i j l
 (fun m o p q=>k1 m o p q))))
def BZ:Ag:=sld Sb
def Rw:PT (List DV):=pA [pV false [(dMr [(dI .i64)] 0)],pV true [(dI .i64),(dI .i64),(dI .i64),(dI .i64),(dI .i64),(dI .i64),dL,(dI .i64),(dI .i64)]]
def Uz (v:Ag)(α:Type)(k:RT α):Int->Int->Int->Int->Int->Int->Int->ae->Int->Int->Op α:=fun a b c d j l m o p q=>v α a b c d (fun e g h i=>ee k e g h i)
theorem aoM:ak Pg 243 31 ⟨Rw,Uz BZ⟩:=iP ek5 aHY (ah Tryz.func243 (by kernel_rfl)) aDG fun _ _=>by kernel_rfl
def aH6:TG:=[tT 0 [0,4,5,6],tT 1 [0,4,5,6,11],tT 2 [0,6],tT 3 [0,6]]
def aD5:aq:=aw Pg Tryz.f238 aH6 aC
def TW (α:Type)(a b c d e g h:Int)(k1:I4 (Op α)):Op α:=
 cK (a != 0)
 (k1 0 0 0 a)
 (Bn α b c d e g h
 (fun i j l m=>dt α a i j l m
 (fun o p q r=>k1 o p q r)))
def eE:kg:=sld TW
def R9 (v:kg)(α:Type)(k:RT α):I7 (Op α):=fun a b c d e g h=>v α a b c d e g h (fun i j l m=>ee k i j l m)
theorem apa:ak Pg 238 20 ⟨ia,R9 eE⟩:=iP ek5 aD5 (ah Tryz.func238 (by kernel_rfl)) S7 fun _ _=>by kernel_rfl
def aKv:SG:=[(10,[.sl]),(20,[.sl]),(22,iS 2)]
def aKJ:TG:=[tT 0 [1],tT 1 [1,4,5],tT 2 [1,4,5,15],tT 3 [2,3],tT 4 [7],tT 5 [2,3]]
def aJl:aq:=aw Pg Tryz.f36 aKJ aC
abbrev Kl:Type 1:=(α:Type)->ae->ae->Int->Int->(Int->Int->Op α)->Op α
def aip (α:Type)(b c:ae)(d e:Int)(k1:Int->Int->Op α):Op α:=
 Oe α b
 (fun g a=>cK (a != 0)
 (k1 g a)
 (Gy α c d e
 (fun i h=>k1 0 h)))
def NG:Kl:=sld aip
def kX:PT (List DV):=pA [pV true [dL,dL,(dI .i64),(dI .i64)]]
def acL (v:Kl)(α:Type)(k:RT α):ae->ae->Int->Int->Op α:=fun a b c d=>v α a b c d (fun e g=>fp k e g)
theorem ayn:ak Pg 36 27 ⟨kX,acL NG⟩:=iP ek5 aJl (ah Tryz.func36 (by kernel_rfl)) aKv fun _ _=>by kernel_rfl
def aEo:SG:=[(4,iS 2),(7,iT),(11,iS 2),(14,iT)]
def aH4:TG:=[tT 0 [1,2],tT 1 [2]]
def aFp:aq:=aw Pg Tryz.f166 aH4 aC
def Qz (α:Type)(b c a:Int)(k1:Int->Int->Op α):Op α:=
 oH α b c
 (fun d=>mV α b c
 (fun e=>k1 (if (w64 (d - a)) > 0 then (w64 (d - a)) else 0) (w64 (e+a))))
def JH:fU:=sld Qz
def RY (v:fU)(α:Type)(k:RT α):Int->Int->Int->Op α:=fun a b c=>v α a b c (fun d e=>bu k d e)
theorem ap3:ak Pg 166 17 ⟨cT,RY JH⟩:=iP ek5 aFp (ah Tryz.func166 (by kernel_rfl)) aEo fun _ _=>by kernel_rfl
def agE:SG:=[(30,iT),(32,iT)]
def aE2:TG:=[tT 0 [0,2],tT 1 [0,2],tT 2 [0,2,9],tT 3 [2],tT 4 [0,2,16],tT 5 [2],tT 6 [0,2,23],tT 7 [2,3],tT 8 [2],tT 9 [2]]
def aeA:aq:=aw Pg Tryz.f274 aE2 aC
def TO (α:Type)(a:Int)(k1:Int->Int->Op α):Op α:=
 gi α a 4194304
 (fun b=>cK (decide (2097152<=(w64 (a - (w64 (4194304*b))))))
 (none)
 (cK (decide (1048576<=(w64 (a - (w64 (4194304*b))))))
 (none)
 (cK (decide (524288 < (w64 (a - (w64 (4194304*b))))))
 (iC α (w64 (1048576 - (w64 (a - (w64 (4194304*b))))))
 (fun c d=>k1 d c))
 (iC α (w64 (a - (w64 (4194304*b))))
 (fun e g=>k1 e g)))))
def xJ:dW:=sld TO
def Uj (v:dW)(α:Type)(k:RT α):Int->Op α:=fun a=>v α a (fun b c=>bu k b c)
theorem apS:ak Pg 274 36 ⟨aU,Uj xJ⟩:=iP ek5 aeA (ah Tryz.func274 (by kernel_rfl)) agE fun _ _=>by kernel_rfl
noncomputable abbrev Lk6:List bA:=⟨274,36,[⟨aU,Uj xJ⟩]⟩::⟨239,20,[⟨ia,XV ci⟩]⟩::⟨238,20,[⟨ia,R9 eE⟩]⟩::⟨240,20,[⟨ia,V9 mw⟩]⟩::⟨206,20,[⟨ia,Tn kQ⟩]⟩::⟨166,17,[⟨cT,RY JH⟩]⟩::⟨243,31,[⟨Rw,Uz BZ⟩]⟩::⟨211,54,[⟨ba,VX yb⟩]⟩::⟨176,19,[⟨cT,Vv yq⟩]⟩::⟨36,27,[⟨kX,acL NG⟩]⟩::Lk5
theorem ak6:bG Lk6 fun c=>bG c.l (ak Pg c.f c.nt):=⟨⟨apS,trivial⟩,⟨ato,trivial⟩,⟨apa,trivial⟩,⟨aoG,trivial⟩,⟨as2,trivial⟩,⟨ap3,trivial⟩,⟨aoM,trivial⟩,⟨aqj,trivial⟩,⟨ath,trivial⟩,⟨ayn,trivial⟩,ak5⟩
def Ek6:aE:=aE.ofIO Lk6 bt io0
theorem ek6:Ek6.Ok Pg:=aE.ofIO_ok aN ak6
def HX (α:Type)(a:Int)(k1:Int->Int->Op α):Op α:=
 gi α a 4194304
 (fun b=>cK (decide (2097152<=(w64 (a - (w64 (4194304*b))))))
 (xJ α (w64 ((w64 (a - (w64 (4194304*b)))) - 2097152))
 (fun c d=>jM α c d 2
 (fun e g=>k1 e g)))
 (cK (decide (1048576<=(w64 (a - (w64 (4194304*b))))))
 (xJ α (w64 ((w64 (a - (w64 (4194304*b)))) - 1048576))
 (fun h i=>jM α h i 1
 (fun j l=>k1 j l)))
 (cK (decide (524288 < (w64 (a - (w64 (4194304*b))))))
 (iC α (w64 (1048576 - (w64 (a - (w64 (4194304*b))))))
 (fun m o=>k1 o m))
 (iC α (w64 (a - (w64 (4194304*b))))
 (fun p q=>k1 p q)))))
def sc:dW:=sld HX
def Zt (v:dW)(α:Type)(k:RT α):Int->Op α:=fun a=>v α a (fun b c=>bu k b c)
theorem atQ:ak Pg 274 36 ⟨aU,Zt sc⟩:=iP ek6 aeA (ah Tryz.func274 (by kernel_rfl)) agE fun _ _=>by kernel_rfl
def ayF:aE:=aE.ofIO (⟨274,36,[⟨aU,Zt sc⟩]⟩::Lk6) bt io0
theorem asg:ayF.Ok Pg:=aE.ofIO_ok aN ⟨⟨atQ,trivial⟩,ak6⟩
def Q7 (α:Type)(a:Int)(k1:Int->Int->Op α):Op α:=
 gi α a 4194304
 (fun b=>cK (decide (2097152<=(w64 (a - (w64 (4194304*b))))))
 (sc α (w64 ((w64 (a - (w64 (4194304*b)))) - 2097152))
 (fun c d=>jM α c d 2
 (fun e g=>k1 e g)))
 (cK (decide (1048576<=(w64 (a - (w64 (4194304*b))))))
 (sc α (w64 ((w64 (a - (w64 (4194304*b)))) - 1048576))
 (fun h i=>jM α h i 1
 (fun j l=>k1 j l)))
 (cK (decide (524288 < (w64 (a - (w64 (4194304*b))))))
 (iC α (w64 (1048576 - (w64 (a - (w64 (4194304*b))))))
 (fun m o=>k1 o m))
 (iC α (w64 (a - (w64 (4194304*b))))
 (fun p q=>k1 p q)))))
def Dv:dW:=sld Q7
def R8 (v:dW)(α:Type)(k:RT α):Int->Op α:=fun a=>v α a (fun b c=>bu k b c)
theorem apZ:ak Pg 274 36 ⟨aU,R8 Dv⟩:=iP asg aeA (ah Tryz.func274 (by kernel_rfl)) agE fun _ _=>by kernel_rfl
def aBf:SG:=[(14,iS 2),(18,iT),(20,iS 3),(22,iS 2),(24,iS 2),(29,iT),(31,iS 2),(38,iT),(40,iS 2),(46,iT),(48,iS 2),(52,iS 2),(55,iT),(60,iT)]
def aFW:TG:=[tT 0 [2,3,4],tT 1 [2,3,4,6],tT 2 [2,3,4,6,19],tT 3 [4,5],tT 4 [2,3,4,6,7],tT 5 [2,3,4,6,7,8,9],tT 6 [2,3,4,6,8,9,10,11],tT 7 [4,8,9,10,11,12],tT 8 [4,5]]
def aAq:aq:=aw Pg Tryz.f223 aFW aC
def Xs (α:Type)(c d h a b e:Int)(k1:I4 (Op α)):Op α:=
 oH α a b
 (fun g=>cK (decide (g<=e))
 (k1 c d h 9)
 (Kr α b
 (fun m=>xL α c d a m
 (fun o p=>jA α a b
 (fun q=>mJ α o 1048576 q
 (fun i r=>jA α a b
 (fun s=>mJ α p 1048576 s
 (fun j t=>mV α a b
 (fun w=>mV α c d
 (fun z=>Ci α (w64 ((w64 (h*w))+(w64 (z*e)))) 1048576 (w64 ((w64 (g - e))*g))
 (fun l=>cK r
 (jH α true
 (fun A=>k1 i j (w64 (l+A)) 0))
 (jH α t
 (fun B=>k1 i j (w64 (l+B)) 0)))))))))))))
def Ji:fN:=sld Xs
def V6 (v:fN)(α:Type)(k:RT α):I6 (Op α):=fun a b c d e g=>v α a b c d e g (fun h i j l=>bD k h i j l)
theorem an4:ak Pg 223 76 ⟨dS,V6 Ji⟩:=iP ek6 aAq (ah Tryz.func223 (by kernel_rfl)) aBf fun _ _=>by kernel_rfl
def aci:SG:=[(10,iS 2),(15,iT),(17,iS 3),(21,iT),(26,iT),(28,iT),(33,iT),(36,iS 3),(40,iT),(48,iT),(59,iT),(64,iT),(76,iT),(81,iS 2),(83,iT)]
def aH1:TG:=[tT 0 [1,2],tT 1 [1,2,4],tT 2 [1,2,4,12],tT 3 [2,3],tT 4 [1,2,4,18],tT 5 [2,3],tT 6 [1,2,4,5],tT 7 [1,2,4,5,6],tT 8 [1,2,4,5,8],tT 9 [1,2,4,5,8,60],tT 10 [1,2,4,5,6,8],tT 11 [1,2,4,5,8],tT 12 [1,2,4,5,8,77],tT 13 [1,2,4,5,8],tT 14 [2,3]]
def YV:aq:=aw Pg Tryz.f195 aH1 aC
def C5:PT St:=pS [sP 1,sP 2,sI 4,sl 12 (aV false [(cD dB)])] [au 1 (xs 3),au 2 (xs 3)]
def aGC {β:Type}(g:St->β):Int->Bool->I6 β:=C5.unc g
def acK:PT St:=pS [sP 1,sP 2,sI 4,sl 18 (aV false [(cD dB)])] [au 1 (xs 3),au 2 (xs 3)]
def agp {β:Type}(g:St->β):Int->Bool->I6 β:=acK.unc g
def D2:PT St:=pS [sP 1,sP 2,sI 4,sI 5,sP 8] [au 1 (xs 3),au 2 (xs 3),au 8 [xI,xI]]
def agz {β:Type}(g:St->β):I10 β:=D2.unc g
def adg:PT St:=pS [sP 1,sP 2,sI 4,sI 5,sP 8,sl 77 (aV false [(cD dB)])] [au 1 (xs 3),au 2 (xs 3),au 8 [xI,xI]]
def alJ {β:Type}(g:St->β):Int->Int->Bool->I8 β:=adg.unc g
def afe:PT St:=pS [sP 1,sP 2,sI 4,sI 5,sP 8,sl 60 (aV false [(cD dB)])] [au 1 (xs 3),au 2 (xs 3),au 8 [xI,xI]]
def ahh {β:Type}(g:St->β):Int->Int->Bool->I8 β:=afe.unc g
def abC:ag:=ag.sub [1,1,1,1,1,1,0] (emb YV)
abbrev FQ:Type 1:=(α:Type)->Int->Int->Int->(Int->Int->Op α)->(Bool->Int->Op α)->(Bool->Op α)->Op α
def GC (α:Type)(b c a:Int)(k1:Int->Int->Op α)(k2:Bool->Int->Op α)(k3:Bool->Op α):Op α:=
 cK (decide (c < 0))
 (pI α a
 (fun e=>mJ α e 1048576 (w64 (2*b))
 (fun d g=>cK (decide (a < 0))
 (k1 d (w64 (0 - b)))
 (k2 (decide (a < 0)) d))))
 (k3 (decide (c < 0)))
def oD:FQ:=sld GC
def LN (v:FQ)(α:Type)(K:KT α):I10 (Op α):=fun e a c d g h i j m o=>v α a c d (fun b l=>agz (K .normal) e a c d g h i j b l) (fun b l=>alJ (K .normal) e a b c d g h i j l a) (fun b=>ahh (K .normal) e a b c d g h i j m o)
theorem ahg:∀ (α:Type) (K:KT α),LN oD α K=D2.unc fun σ=>az Pg Ek6 aci abC K σ:=aZ (fun α K=>by kernel_rfl)
def abT:ag:=ag.sub [1,1,0,0,1,1,0] (emb YV)
def G2 (α:Type)(b c a:Int)(k1:Bool->Op α):Op α:=
 cK (decide (b < 0))
 (j0 α c a
 (fun d=>cK d
 (k1 (a != 0))
 (k1 false)))
 (k1 false)
def uI:ch:=sld G2
def Ny (v:ch)(α:Type)(K:KT α):Int->Bool->I6 (Op α):=fun d j a b c e g h=>v α a b c (fun i=>agp (K .normal) d i a b c e g h)
theorem ama:∀ (α:Type) (K:KT α),Ny uI α K=C5.unc fun σ=>az Pg Ek6 aci abT K σ:=aZ (fun α K=>by kernel_rfl)
def JI (α:Type)(c d a:Int)(k1:I4 (Op α)):Op α:=
 oH α c d
 (fun e=>cK (decide (e<=a))
 (k1 c d a 9)
 (uI α c d a
 (fun g=>cK g
 (k1 c d a 14)
 (pI α c
 (fun h=>eF α (w64 ((w64 (e+h))*524288))
 (fun b=>mJ α d 1048576 (w64 (2*b))
 (fun i B=>oD α b c d
 (fun j l=>eF α (w64 (e*1048576))
 (fun m=>cC α (w64 (a*1048576)) m
 (fun o=>cC α 1048576 b
 (fun p=>k1 j l (w64 ((w64 (o+3))+p)) 0))))
 (fun C q=>eF α (w64 (e*1048576))
 (fun r=>cC α (w64 (a*1048576)) r
 (fun s=>cC α 1048576 b
 (fun t=>k1 q b (w64 ((w64 (s+3))+t)) 0))))
 (fun D=>eF α (w64 (e*1048576))
 (fun w=>cC α (w64 (a*1048576)) w
 (fun z=>cC α 1048576 b
 (fun A=>k1 b i (w64 ((w64 (z+3))+A)) 0)))))))))))
def rC:kf:=sld JI
def ZM (v:kf)(α:Type)(k:RT α):Int->Int->Int->Op α:=fun a b c=>v α a b c (fun d e g h=>bD k d e g h)
def ao5:ag:=(ag.put (.m [⟨C5,Ny uI⟩]) [1,1,0,0,1,1] (ag.put (.m [⟨D2,LN oD⟩]) [1,1,1,1,1,1] (emb YV)))
theorem aqe:ak Pg 195 94 ⟨cT,ZM rC⟩:=iZ ek6 (ah Tryz.func195 (by kernel_rfl)) aci ao5 ((an _ _).trans ((an _ _).trans (aA _))) (aM (by kernel_rfl) (aM (by kernel_rfl) (aD YV) ⟨ahg,trivial⟩) ⟨ama,trivial⟩) fun _ _=>by kernel_rfl
def aGe:SG:=[(12,iS 2),(14,iS 2),(18,iT),(24,iT),(32,iS 2),(35,iT),(38,iS 2),(41,iT),(45,iT),(47,iT)]
def aDe:TG:=[tT 0 [2,3,4],tT 1 [2,3,4,6],tT 2 [2,3,4,6,7,8],tT 3 [2,3,4,7,8,9,10],tT 4 [4,5]]
def aCe:aq:=aw Pg Tryz.f219 aDe aC
def TB (α:Type)(a b c d e g:Int)(k1:Int->Int->Int->Op α):Op α:=
 xL α a b d e
 (fun l m=>mt α l 1048576
 (fun h o=>mt α m 1048576
 (fun i p=>mV α a b
 (fun q=>mV α d e
 (fun r=>cC α (w64 ((w64 ((w64 (q*g))+(w64 (r*c))))+(w64 (c*g)))) 1048576
 (fun j=>cK o
 (jH α true
 (fun s=>k1 h i (w64 (j+s))))
 (jH α p
 (fun t=>k1 h i (w64 (j+t))))))))))
def H8:fM:=sld TB
def V0 (v:fM)(α:Type)(k:RT α):I6 (Op α):=fun a b c d e g=>v α a b c d e g (fun h i j=>bD k h i j 0)
theorem aoL:ak Pg 219 58 ⟨dS,V0 H8⟩:=iP ek6 aCe (ah Tryz.func219 (by kernel_rfl)) aGe fun _ _=>by kernel_rfl
def avG:SG:=[(8,[.cpx .f64]),(16,iT),(20,iS 2),(22,iT)]
def aEk:TG:=[tT 0 [1,2],tT 1 [1,2,4,5],tT 2 [1,2,4,5,19],tT 3 [1,2,4,5],tT 4 [2,3]]
def aen:aq:=aw Pg Tryz.f165 aEk aC
def Bd:PT St:=pS [sP 1,sP 2,sP 4,sI 5] [au 1 [(cD (dX .f64)),xI],au 2 (xs 3),au 4 [xI,xI]]
def adZ {β:Type}(g:St->β):Int->Nat->Nat->I6 β:=Bd.unc g
def afF:PT St:=pS [sP 1,sP 2,sP 4,sI 5,sl 19 (aV false [(cD dB)])] [au 1 [(cD (dX .f64)),xI],au 2 (xs 3),au 4 [xI,xI]]
def acr {β:Type}(g:St->β):Int->Bool->Nat->Nat->I6 β:=afF.unc g
def ado:ag:=ag.sub [1,1,0] (emb aen)
abbrev qO:Type 1:=(α:Type)->Int->Int->(Op α)->(Bool->Op α)->Op α
def GZ (α:Type)(b c:Int)(k1:Op α)(k2:Bool->Op α):Op α:=
 cK (b == 0)
 (kI α c 0 67108864
 (fun a=>cK (!a)
 (k1)
 (k2 (!a))))
 (k2 false)
def sZ:qO:=sld GZ
def NP (v:qO)(α:Type)(K:KT α):Int->Nat->Nat->I6 (Op α):=fun b c d a e g h i j=>v α b a (adZ (K .normal) 2 c d a e g h i j) (fun l=>acr (K .normal) b l c d a e g h i j)
theorem adX:∀ (α:Type) (K:KT α),NP sZ α K=Bd.unc fun σ=>az Pg Ek6 avG ado K σ:=aZ (fun α K=>by kernel_rfl)
abbrev Ai:Type 1:=(α:Type)->Nat->Nat->Int->(Int->Int->Int->Op α)->Op α
def Qp (α:Type)(d e:Nat)(g:Int)(k1:Int->Int->Int->Op α):Op α:=
 EE α d e 4724276009111650304
 (fun a b c=>sZ α c g
 (k1 a b 2)
 (fun h=>k1 a b c))
def fk:Ai:=sld Qp
def kh:PT (List DV):=pA [pV true [(dX .f64),(dI .i64)]]
def UB (v:Ai)(α:Type)(k:RT α):Nat->Nat->Int->Op α:=fun b c a=>v α b c a (fun d e g=>bD k d e a g)
def anK:ag:=(ag.put (.m [⟨Bd,NP sZ⟩]) [1,1] (emb aen))
theorem as3:ak Pg 165 25 ⟨kh,UB fk⟩:=iZ ek6 (ah Tryz.func165 (by kernel_rfl)) avG anK ((an _ _).trans (aA _)) (aM (by kernel_rfl) (aD aen) ⟨adX,trivial⟩) fun _ _=>by kernel_rfl
def avo:SG:=[(10,iT)]
def aES:TG:=[tT 0 [0,1,2,6],tT 1 [0,1,2,6,11],tT 2 [0,6],tT 3 [0,6]]
def aCd:aq:=aw Pg Tryz.f191 aES aC
def YZ (α:Type)(a b c:Int)(k1:Nat->Nat->Int->Int->Op α):Op α:=
 cK (a != 0)
 (k1 0 0 0 a)
 (BN α b c
 (fun d e g h=>dM α
 (k1 d e g h)))
def yv:qn:=sld YZ
def qM:PT (List DV):=pA [pV false [(dMr [(dI .i64),(dI .i64),(dI .i64),(dI .i64),(dI .i64),(dI .i64),(dI .i64),dL,(dI .i64),(dI .i64)] 0)],vI,vI]
def Wm (v:qn)(α:Type)(k:RT α):Int->Int->Int->Int->Int->Int->Int->ae->I4 (Op α):=fun a b c d e g h i j l m o=>v α a m o (fun p q r s=>cH k p q r s b c d e g h i j l)
theorem am0:ak Pg 191 20 ⟨qM,Wm yv⟩:=iP ek6 aCd (ah Tryz.func191 (by kernel_rfl)) avo fun _ _=>by kernel_rfl
def aAA:TG:=[tT 0 [0,1,2,6],tT 1 [0,1,2,6,11],tT 2 [0,6],tT 3 [0,6]]
def aE7:aq:=aw Pg Tryz.f160 aAA aC
def WL (α:Type)(a b c:Int)(k1:Nat->Nat->Int->Int->Op α):Op α:=
 cK (a != 0)
 (k1 0 0 0 a)
 (mF α b c
 (fun d e g h=>dM α
 (k1 d e g h)))
def pJ:qn:=sld WL
def QK (v:qn)(α:Type)(k:RT α):Int->Int->Int->Int->Int->Int->Int->ae->I4 (Op α):=fun a b c d e g h i j l m o=>v α a m o (fun p q r s=>cH k p q r s b c d e g h i j l)
theorem asS:ak Pg 160 21 ⟨qM,QK pJ⟩:=iP ek6 aE7 (ah Tryz.func160 (by kernel_rfl)) avo fun _ _=>by kernel_rfl
def aBe:SG:=[(7,[.int .i64,.int .i64,.int .i64,.int .i64,.int .i64,.int .i64,.sl,.int .i64,.int .i64]),(11,[.int .i64,.int .i64,.int .i64,.int .i64,.int .i64,.int .i64,.sl,.int .i64,.int .i64])]
def aA0:TG:=[tT 0 [1],tT 1 [1,5],tT 2 [2,3]]
def aAD:aq:=aw Pg Tryz.f127 aA0 aC
def abY:PT (List RV):=pRs [pR false [rJ [(dI .i64),(dI .i64),(dI .i64),(dI .i64),(dI .i64),(dI .i64),(dI .i64),dL,(dI .i64),(dI .i64)] 0],wI]
def aag {β:Type}(g:List RV->β):Int->Int->Int->Int->Int->Int->Int->ae->Int->Int->Int->β:=abY.unc g
abbrev ZE:Type 1:=(α:Type)->Int->Int->Int->Int->Int->Int->ae->Int->Int->(Int->Op α)->Op α
def Yu (α:Type)(a b c d e g:Int)(h:ae)(i j:Int)(k1:Int->Op α):Op α:=
 Fd α a b c d e g h i j
 (fun m l=>k1 l)
def JN:ZE:=sld Yu
def Qf (v:ZE)(α:Type)(k:RT α):Int->Int->Int->Int->Int->Int->ae->Int->Int->Op α:=fun a b c d e g h i j=>v α a b c d e g h i j (fun l=>aag k 0 a b c d e g h i j l)
theorem amS:ak Pg 127 15 ⟨eV,Qf JN⟩:=iP ek6 aAD (ah Tryz.func127 (by kernel_rfl)) aBe fun _ _=>by kernel_rfl
def aKX:SG:=[(10,[.sl]),(19,[.sl,.sl,.int .i64,.int .i64]),(21,[.sl]),(22,iS 9),(23,iS 9),(25,[.sl]),(26,iS 9),(27,iS 9)]
def aLe:TG:=[tT 0 [1],tT 1 [1,4,5],tT 2 [1,4,5,15],tT 3 [2,3],tT 4 [7],tT 5 [2,3]]
def aLi:aq:=aw Pg Tryz.f70 aLe aC
def OS (α:Type)(a c:ae)(d e:Int)(k1:Int->Int->Op α):Op α:=
 HI α a
 (fun g b=>cK (b != 0)
 (k1 g b)
 (dG a 0 [.int .i64,.int .i64,.int .i64,.int .i64,.int .i64,.int .i64,.int .i64,.int .i64,.int .i64]
 (fun q h i r s t w z A=>dG a 0 [.int .i64,.int .i64,.int .i64,.int .i64,.int .i64,.int .i64,.int .i64,.int .i64,.int .i64]
 (fun B C D j l m o F G=>GL α
 (F4 α
 (Fd α i j l h m o c d e
 (fun H p=>k1 0 p)))))))
def Dy:Kl:=sld OS
def ajF (v:Kl)(α:Type)(k:RT α):ae->ae->Int->Int->Op α:=fun a b c d=>v α a b c d (fun e g=>fp k e g)
theorem azU:ak Pg 70 34 ⟨kX,ajF Dy⟩:=iP ek6 aLi (ah Tryz.func70 (by kernel_rfl)) aKX fun _ _=>by kernel_rfl
def aCB:SG:=[(24,iS 3),(27,iS 3),(34,iS 3),(38,iS 3),(45,iS 3),(46,iS 3),(49,iS 12)]
def aDi:TG:=[tT 0 [0,4,5,6],tT 1 [0,4,5,6,7],tT 2 [0,4,5,6,7,8],tT 3 [0,4,5,6,7,8,13],tT 5 [0,4,5,6,7,8,9],tT 6 [0,4,5,6,7,8,9,17],tT 8 [0,4,5,6,7,8,9,10],tT 9 [0,4,5,6,7,8,9,10,11],tT 10 [0,4,5,6,7,8,9],tT 7 [0,4,5,6,7,8,9],tT 4 [0,4,5,6,7,8],tT 11 [0,6]]
def aAr:TG:=[tT 3 [0,4,5,6,7,8],tT 6 [0,4,5,6,7,8,9]]
def SW:aq:=aw Pg Tryz.f263 aDi aAr
def aIu:OT:=tdC (ag.sub [1,1,0,1,0] (emb SW))
def aFt:OT:=tdC (ag.sub [1,1,0,1,0,0,1,0,0,1,0] (emb SW))
def abt:PT (List RV):=pRs [pR true [rD (dI .i64),rD (dI .i64),rD (dI .i64),rD (dI .i64),rD (dI .i64),rD (dI .i64),rD (dI .i64),rD (dI .i64),rD (dI .i64),rD (dI .i64),rD (dI .i64),rD (dI .i64)],pR true [rD (dI .i64)]]
def G7 {β:Type}(g:List RV->β):I13 β:=abt.unc g
abbrev Qb:Type 1:=(α:Type)->Int->Int->Int->Int->Int->Int->Int->Int->Int->Int->Int->Int->Int->Int->Int->Int->Int->Int->Int->Int->Int->Int->Int->Int->Int->(I13 (Op α))->Op α
def Yt (α:Type)(G a b c d e g h i j l m o p q r s t w z A B C D F:Int)(k1:I13 (Op α)):Op α:=
 ci α G a b c p q r
 (fun H I J L=>ci α L d e g z A B
 (fun M N O P=>eE α P H I J M N O
 (fun Q R T U=>ci α U a b c s t w
 (fun V W X Y=>ci α Y d e g C D F
 (fun Z a0 a1 a2=>eE α a2 V W X Z a0 a1
 (fun a3 a4 a5 a6=>ci α a6 h i j p q r
 (fun a7 a8 a9 b0=>ci α b0 l m o z A B
 (fun b1 b2 b3 b4=>eE α b4 a7 a8 a9 b1 b2 b3
 (fun b5 b6 b7 b8=>ci α b8 h i j s t w
 (fun b9 c0 c1 c2=>ci α c2 l m o C D F
 (fun c3 c4 c5 c6=>eE α c6 b9 c0 c1 c3 c4 c5
 (fun c7 c8 c9 d0=>k1 Q R T a3 a4 a5 b5 b6 b7 c7 c8 c9 d0))))))))))))
def yh:Qb:=sld Yt
def R3:PT (List DV):=pA [pV false [(dMr [(dI .i64)] 0)],pV true [(dI .i64),(dI .i64),(dI .i64),(dI .i64),(dI .i64),(dI .i64),(dI .i64),(dI .i64),(dI .i64),(dI .i64),(dI .i64),(dI .i64)],pV true [(dI .i64),(dI .i64),(dI .i64),(dI .i64),(dI .i64),(dI .i64),(dI .i64),(dI .i64),(dI .i64),(dI .i64),(dI .i64),(dI .i64)]]
def SL (v:Qb)(α:Type)(k:RT α):I25 (Op α):=fun a b c d e g h i j l m o p q r s t w z A B C D F G=>v α a b c d e g h i j l m o p q r s t w z A B C D F G (fun H I J L M N O P Q R T U V=>G7 k H I J L M N O P Q R T U V)
def auJ:ag:=(ag.put (.u 3) [1,1,0,1,0] (ag.put (.u 3) [1,1,0,1,0,0,1,0,0,1,0] (emb SW)))
theorem arI:ak Pg 263 50 ⟨R3,SL yh⟩:=iZ ek6 (ah Tryz.func263 (by kernel_rfl)) aCB auJ ((an _ _).trans ((an _ _).trans (aA _))) (GV (by decide) (GV (by decide) (aD SW))) fun _ _=>by kernel_rfl
def az6:SG:=[(14,iS 3),(21,iS 3),(26,iS 3),(27,iS 3),(30,iS 3),(31,iS 3),(33,iS 3),(34,iS 3),(35,iS 3),(36,iS 3)]
def aCv:TG:=[tT 0 [0,4,5,6],tT 1 [0,4,5,6,7],tT 2 [0,4,6,7,8],tT 3 [0,4,6,7,8,9],tT 4 [0,6,7,9,10],tT 5 [0,6]]
def aEQ:aq:=aw Pg Tryz.f264 aCv aC
abbrev RS:Type 1:=(α:Type)->Int->Int->Int->Int->Int->Int->Int->(I13 (Op α))->Op α
def WV (α:Type)(p a b c d e g:Int)(k1:I13 (Op α)):Op α:=
 mm α
 (eE α p 1048576 0 0 d e g
 (fun q r s t=>ya α
 (ci α t q r s 524288 0 0
 (fun h i j w=>mm α
 (mw α w 1048576 0 0 d e g
 (fun z A B C=>ya α
 (ci α C z A B 524288 0 0
 (fun l m o D=>kQ α D l m o a b c
 (fun F G H I=>ci α I l m o a b c
 (fun J L M N=>k1 h i j F G H J L M h i j N))))))))))
def xy:RS:=sld WV
def To (v:RS)(α:Type)(k:RT α):I7 (Op α):=fun a b c d e g h=>v α a b c d e g h (fun i j l m o p q r s t w z A=>G7 k i j l m o p q r s t w z A)
theorem aoI:ak Pg 264 38 ⟨ia,To xy⟩:=iP ek6 aEQ (ah Tryz.func264 (by kernel_rfl)) az6 fun _ _=>by kernel_rfl
def awb:SG:=[(11,iT),(17,iT),(20,iT),(25,iS 2),(33,iT),(38,iS 2),(50,iS 3),(52,iS 2)]
def aBd:TG:=[tT 0 [0,3,4],tT 1 [0,3,4,12],tT 2 [0,4],tT 3 [0,3,4,5],tT 4 [0,3,4,5,22],tT 5 [0,3,4,5],tT 6 [0,3,4,5,34],tT 7 [0,4],tT 8 [0,4,5,6,7],tT 9 [0,4,5,6,7,43],tT 10 [0,4],tT 11 [0,4],tT 12 [0,4]]
def ahM:aq:=aw Pg Tryz.f279 aBd aC
def Bq:PT St:=pSv [(0,500000000,0)] [sl 0 (aV false [(cB 500000000 0)]),sP 3,sP 4,sP 5] [au 500000000 [xI],au 3 (xs 4),au 4 (xs 3),au 5 (xs 3)]
def aeH {β:Type}(g:St->β):I11 β:=Bq.unc g
def aeC:PT St:=pSv [(0,500000000,0)] [sl 0 (aV false [(cB 500000000 0)]),sP 3,sP 4,sP 5,sl 22 (aV false [(cD dB)])] [au 500000000 [xI],au 3 (xs 4),au 4 (xs 3),au 5 (xs 3)]
def ag9 {β:Type}(g:St->β):Bool->I11 β:=aeC.unc g
def acb:ag:=ag.sub [1,1,1,0] (emb ahM)
abbrev GS:Type 1:=(α:Type)->Int->Int->Int->(I4 (Op α))->(Bool->Op α)->Op α
def Gg (α:Type)(c a b:Int)(k1:I4 (Op α))(k2:Bool->Op α):Op α:=
 cK (decide ((w64 (b - a)) < 1048576))
 (xp α a b
 (fun d e g h=>dt α c d e g h
 (fun i j l m=>k1 m i j l)))
 (k2 (decide ((w64 (b - a)) < 1048576)))
def wu:GS:=sld Gg
def Na (v:GS)(α:Type)(K:KT α):I11 (Op α):=fun d a b e g h i j l m o=>v α d a b (fun c p q r=>aeH (K .normal) c a b e g h i j p q r) (fun c=>ag9 (K .normal) c d a b e g h i j l m o)
theorem acx:∀ (α:Type) (K:KT α),Na wu α K=Bq.unc fun σ=>az Pg Ek6 awb acb K σ:=aZ (fun α K=>by kernel_rfl)
def Se (α:Type)(a h i c d:Int)(k1:I4 (Op α)):Op α:=
 cK (a != 0)
 (k1 0 0 0 a)
 (wu α a h i
 (fun b j l m=>cK (b != 0)
 (k1 0 0 0 b)
 (rU α c d
 (fun o p e=>cK (e != 0)
 (k1 0 0 0 e)
 (g8 α o p
 (fun q r s t=>dt α b q r s t
 (fun w z A B=>ci α B j l m w z A
 (fun C D F G=>k1 C D F G)))))))
 (fun X=>cK (a != 0)
 (k1 0 0 0 a)
 (rU α c d
 (fun H I g=>cK (g != 0)
 (k1 0 0 0 g)
 (g8 α H I
 (fun J L M N=>dt α a J L M N
 (fun O P Q R=>ci α R 0 0 1048576 O P Q
 (fun T U V W=>k1 T U V W))))))))
def xS:zM:=sld Se
def SM:PT (List DV):=pA [pV false [(dMr [(dI .i64)] 0)],pV true [(dI .i64),(dI .i64),(dI .i64),(dI .i64)]]
def XD (v:zM)(α:Type)(k:RT α):I5 (Op α):=fun a b c d e=>v α a b c d e (fun g h i j=>ee k g h i j)
def aqa:ag:=(ag.put (.m [⟨Bq,Na wu⟩]) [1,1,1] (emb ahM))
theorem asy:ak Pg 279 58 ⟨SM,XD xS⟩:=iZ ek6 (ah Tryz.func279 (by kernel_rfl)) awb aqa ((an _ _).trans (aA _)) (aM (by kernel_rfl) (aD ahM) ⟨acx,trivial⟩) fun _ _=>by kernel_rfl
def aE9:SG:=[(9,[.int .i64,.int .i64,.int .i64,.int .i64,.int .i64,.int .i64,.sl,.int .i64,.int .i64]),(15,iT),(20,iT),(29,iT),(35,iT),(38,iS 3),(40,iS 3),(43,iT)]
def aC4:TG:=[tT 0 [0,2,4,6],tT 1 [0,6,7],tT 2 [0,6,7,8],tT 3 [0,6,7,8,37],tT 4 [0,6],tT 5 [0,6]]
def aBS:aq:=aw Pg Tryz.f242 aC4 aC
abbrev Sy:Type 1:=(α:Type)->Int->Int->ae->Int->Int->Int->(I4 (Op α))->Op α
def Ul (α:Type)(g h:Int)(i:ae)(j l m:Int)(k1:I4 (Op α)):Op α:=
 rZ α h i j l m
 (fun o p Q R e=>dz α (w64 (o*1048576)) 10000
 (fun q=>cq α (w64 (p*1048576)) 10000
 (fun r=>g8 α q r
 (fun s t w z=>dt α g s t w z
 (fun b c d a=>cK (e == 0)
 (k1 b c d a)
 (cK (a != 0)
 (k1 b c d a)
 (yL α e 10000
 (fun A B C D=>dt α a A B C D
 (fun F G H I=>rM α F G 1
 (fun J L=>eE α I b c d J L H
 (fun M N O P=>k1 M N O P)))))))))))
def xD:Sy:=sld Ul
def g9:PT (List DV):=pA [pV false [(dMr [(dI .i64)] 0)],pV true [(dI .i64),(dI .i64),(dI .i64),(dI .i64),(dI .i64),(dI .i64),dL,(dI .i64),(dI .i64)],vI]
def YI (v:Sy)(α:Type)(k:RT α):Int->Int->Int->Int->Int->Int->Int->ae->Int->Int->Int->Op α:=fun a b m o p q r c d e g=>v α a b c d e g (fun h i j l=>ee k h i j l)
theorem atD:ak Pg 242 50 ⟨g9,YI xD⟩:=iP ek6 aBS (ah Tryz.func242 (by kernel_rfl)) aE9 fun _ _=>by kernel_rfl
def aA9:SG:=[(8,[.cpx .f64,.int .i64]),(16,iS 3),(19,iT),(21,iT),(25,iT),(27,iT)]
def aBp:TG:=[tT 0 [1,2],tT 1 [2,4,5],tT 2 [2,4,5,13],tT 3 [2,3],tT 4 [2,6],tT 5 [2,3]]
def aCt:aq:=aw Pg Tryz.f132 aBp aC
noncomputable abbrev Lk7:List bA:=⟨165,25,[⟨kh,UB fk⟩]⟩::⟨219,58,[⟨dS,V0 H8⟩]⟩::⟨223,76,[⟨dS,V6 Ji⟩]⟩::⟨242,50,[⟨g9,YI xD⟩]⟩::⟨195,94,[⟨cT,ZM rC⟩]⟩::⟨279,58,[⟨SM,XD xS⟩]⟩::⟨264,38,[⟨ia,To xy⟩]⟩::⟨263,50,[⟨R3,SL yh⟩]⟩::⟨160,21,[⟨qM,QK pJ⟩]⟩::⟨191,20,[⟨qM,Wm yv⟩]⟩::⟨127,15,[⟨eV,Qf JN⟩]⟩::⟨70,34,[⟨kX,ajF Dy⟩]⟩::Lk6
theorem ak7:bG Lk7 fun c=>bG c.l (ak Pg c.f c.nt):=⟨⟨as3,trivial⟩,⟨aoL,trivial⟩,⟨an4,trivial⟩,⟨atD,trivial⟩,⟨aqe,trivial⟩,⟨asy,trivial⟩,⟨aoI,trivial⟩,⟨arI,trivial⟩,⟨asS,trivial⟩,⟨am0,trivial⟩,⟨amS,trivial⟩,⟨azU,trivial⟩,ak6⟩
def Ek7:aE:=aE.ofIO Lk7 bt io0
theorem ek7:Ek7.Ok Pg:=aE.ofIO_ok aN ak7
def Xf (α:Type)(e g:Nat)(a:Int)(k1:Int->Int->Int->Op α):Op α:=
 fk α e g a
 (fun h i b=>cK (b != 0)
 (k1 0 0 b)
 (JH α h i a
 (fun c d=>gi α (w64 (c*c)) 1048576
 (fun j=>cC α (w64 (d*d)) 1048576
 (fun l=>k1 j l 0)))))
def sB:Ai:=sld Xf
def RF (v:Ai)(α:Type)(k:RT α):Nat->Nat->Int->Op α:=fun a b c=>v α a b c (fun d e g=>jd k d e g)
theorem amB:ak Pg 132 31 ⟨kh,RF sB⟩:=iP ek7 aCt (ah Tryz.func132 (by kernel_rfl)) aA9 fun _ _=>by kernel_rfl
def avB:SG:=[(21,iT),(27,iT),(50,iS 3)]
def aDu:TG:=[tT 0 [0,1,4],tT 1 [0,1,4,6],tT 2 [0,1,4,6,7],tT 3 [0,1,4,6,7,8],tT 4 [0,1,4,6,8,10],tT 5 [0,1,4,12],tT 6 [4,12,48],tT 7 [4,12],tT 8 [4,5]]
def afs:aq:=aw Pg Tryz.f254 aDu aC
def Bw:PT St:=pS [sI 0,sI 1,sP 4,sP 12] [au 4 [(cD (dX .f64)),xI],au 12 (xs 3)]
def aEG {β:Type}(g:St->β):Int->Int->Nat->Nat->I4 β:=Bw.unc g
def ahm:PT St:=pS [sP 4,sP 12] [au 4 [(cD (dX .f64)),xI],au 12 (xs 3)]
def al2 {β:Type}(g:St->β):Nat->Nat->I4 β:=ahm.unc g
def aky:PT St:=pS [sP 4,sP 12,sl 48 (aV false [(cD dB)])] [au 4 [(cD (dX .f64)),xI],au 12 (xs 3)]
def ale {β:Type}(g:St->β):Bool->Nat->Nat->I4 β:=aky.unc g
def agq:aE:=aE.ofIO (⟨274,36,[⟨aU,R8 Dv⟩]⟩::Lk7) bt io0
theorem aqS:agq.Ok Pg:=aE.ofIO_ok aN ⟨⟨apZ,trivial⟩,ak7⟩
def abZ:ag:=ag.sub [1,1,1,1,1,1,0] (emb afs)
def F5 (α:Type)(a b:Int)(k1:Op α)(k2:Bool->Op α):Op α:=
 cK (a == b)
 (cK ((Int.tmod a 1048576) == 0)
 (k1)
 (k2 ((Int.tmod a 1048576) == 0)))
 (k2 false)
def sG:qO:=sld F5
def Nb (v:qO)(α:Type)(K:KT α):Int->Int->Nat->Nat->I4 (Op α):=fun g h a b c d e i=>v α g h (al2 (K .normal) a b c d e 0) (fun j=>ale (K .normal) j a b c d e i)
theorem afJ:∀ (α:Type) (K:KT α),Nb sG α K=Bw.unc fun σ=>az Pg agq avB abZ K σ:=aZ (fun α K=>by kernel_rfl)
def YQ (α:Type)(b a:Int)(k1:Nat->Nat->Int->Int->Op α):Op α:=
 gi α (w64 (b+a)) 2
 (fun c=>Dv α c
 (fun g h=>mt α g 64
 (fun d t=>mt α h 64
 (fun e w=>cC α (w64 (11*(w64 (a - c)))) 7
 (fun i=>sG α b a
 (fZ α d e 0
 (fun j l m o=>k1 j l m o))
 (fun z=>fZ α d e (w64 (2+i))
 (fun p q r s=>k1 p q r s)))))))
def EP:fL:=sld YQ
def UK (v:fL)(α:Type)(k:RT α):Int->Int->Op α:=fun a b=>v α a b (fun c d e g=>bF k c d e g)
def auz:ag:=(ag.put (.m [⟨Bw,Nb sG⟩]) [1,1,1,1,1,1] (emb afs))
theorem amR:ak Pg 254 54 ⟨br,UK EP⟩:=iZ aqS (ah Tryz.func254 (by kernel_rfl)) avB auz ((an _ _).trans (aA _)) (aM (by kernel_rfl) (aD afs) ⟨afJ,trivial⟩) fun _ _=>by kernel_rfl
def Zg:SG:=[(7,iS 3),(8,iS 3)]
def aCE:TG:=[tT 0 [1,2,3,4],tT 1 [4,5]]
def SJ:aq:=aw Pg Tryz.f257 aCE aC
def YH (α:Type)(a b c d e g:Int)(k1:Int->Int->Int->Op α):Op α:=
 JC α d e g a b c
 (fun h i j=>k1 h i j)
def HU:fM:=sld YH
def Ug:PT (List DV):=pA [pV true [(dI .i64),(dI .i64),(dI .i64)],pV false [(dP [(dFn 217 [])] 0)],pV false [(dP [(dI .i64),(dI .i64),(dI .i64)] 0)]]
def ZD (v:fM)(α:Type)(k:RT α):I6 (Op α):=fun a b c d e g=>v α a b c d e g (fun h i j=>bD k h i j 0)
theorem apt:ak Pg 257 12 ⟨Ug,ZD HU⟩:=iP ek7 SJ (ah Tryz.func257 (by kernel_rfl)) Zg fun _ _=>by kernel_rfl
def UW (α:Type)(a b c d e g:Int)(k1:Int->Int->Int->Op α):Op α:=
 H8 α d e g a b c
 (fun h i j=>k1 h i j)
def Im:fM:=sld UW
def VT:PT (List DV):=pA [pV true [(dI .i64),(dI .i64),(dI .i64)],pV false [(dP [(dFn 219 [])] 0)],pV false [(dP [(dI .i64),(dI .i64),(dI .i64)] 0)]]
def P8 (v:fM)(α:Type)(k:RT α):I6 (Op α):=fun a b c d e g=>v α a b c d e g (fun h i j=>bD k h i j 0)
theorem au2:ak Pg 257 12 ⟨VT,P8 Im⟩:=iP ek7 SJ (ah Tryz.func257 (by kernel_rfl)) Zg fun _ _=>by kernel_rfl
def TQ (α:Type)(a b c d e g:Int)(k1:Int->Int->Int->Op α):Op α:=
 JS α d e g a b c
 (fun h i j=>k1 h i j)
def Ii:fM:=sld TQ
def Wy:PT (List DV):=pA [pV true [(dI .i64),(dI .i64),(dI .i64)],pV false [(dP [(dFn 227 [])] 0)],pV false [(dP [(dI .i64),(dI .i64),(dI .i64)] 0)]]
def Ra (v:fM)(α:Type)(k:RT α):I6 (Op α):=fun a b c d e g=>v α a b c d e g (fun h i j=>bD k h i j 0)
theorem auM:ak Pg 257 12 ⟨Wy,Ra Ii⟩:=iP ek7 SJ (ah Tryz.func257 (by kernel_rfl)) Zg fun _ _=>by kernel_rfl
def VI (α:Type)(a b c d e g:Int)(k1:I4 (Op α)):Op α:=
 Ji α d e g a b c
 (fun h i j l=>k1 h i j l)
def Jw:fN:=sld VI
def Vo:PT (List DV):=pA [pV true [(dI .i64),(dI .i64),(dI .i64)],pV false [(dP [(dFn 223 [])] 0)],pV false [(dP [(dI .i64),(dI .i64),(dI .i64)] 0)]]
def WC (v:fN)(α:Type)(k:RT α):I6 (Op α):=fun a b c d e g=>v α a b c d e g (fun h i j l=>bD k h i j l)
theorem anR:ak Pg 257 12 ⟨Vo,WC Jw⟩:=iP ek7 SJ (ah Tryz.func257 (by kernel_rfl)) Zg fun _ _=>by kernel_rfl
def aE0:SG:=[(8,[.cpx .f64,.int .i64]),(20,iT),(25,iT)]
def aAj:TG:=[tT 0 [1,2],tT 1 [2,4,5],tT 2 [2,4,5,13],tT 3 [2,3],tT 4 [2,4,6],tT 5 [2,3]]
def aGp:aq:=aw Pg Tryz.f158 aAj aC
def aad:PT (List RV):=pRs [pR true [rD (dI .i64),rD (dI .i64),rD (dI .i64),rD (dI .i64)],wI]
def aar {β:Type}(g:List RV->β):I5 β:=aad.unc g
abbrev Qo:Type 1:=(α:Type)->Nat->Nat->Int->(I5 (Op α))->Op α
def Yi (α:Type)(c d:Nat)(a:Int)(k1:I5 (Op α)):Op α:=
 fk α c d a
 (fun e g b=>cK (b != 0)
 (k1 0 0 0 0 b)
 (CM α e a
 (fun h i=>CM α g a
 (fun j l=>k1 h i j l 0))))
def EQ:Qo:=sld Yi
def VK (v:Qo)(α:Type)(k:RT α):Nat->Nat->Int->Op α:=fun a b c=>v α a b c (fun d e g h i=>aar k d e g h i)
theorem arX:ak Pg 158 28 ⟨kh,VK EQ⟩:=iP ek7 aGp (ah Tryz.func158 (by kernel_rfl)) aE0 fun _ _=>by kernel_rfl
def aEv:SG:=[(13,[.int .i64,.int .i64,.int .i64,.int .i64,.int .i64,.int .i64,.sl,.int .i64,.int .i64]),(17,[.int .i64,.int .i64,.int .i64,.int .i64,.int .i64,.int .i64,.sl,.int .i64,.int .i64]),(20,iS 3),(21,iS 3),(24,iS 3),(25,iS 3),(27,iS 3),(29,iS 3),(30,iS 3)]
def aHV:TG:=[tT 0 [0,2,4,6,7],tT 1 [0,6,7,8,9],tT 2 [0,6,7,9,10],tT 3 [0,6,7,10,11],tT 4 [0,6,7]]
def aB3:aq:=aw Pg Tryz.f207 aHV aC
def aaK:PT (List RV):=pRs [pR true [rD (dI .i64),rD (dI .i64),rD (dI .i64)],pR true [rD (dI .i64),rD (dI .i64),rD (dI .i64)],pR true [rD (dI .i64)]]
def ZZ {β:Type}(g:List RV->β):I7 β:=aaK.unc g
abbrev Va:Type 1:=(α:Type)->Int->Int->Int->Int->ae->Int->Int->Int->(I7 (Op α))->Op α
def VN (α:Type)(m a o p:Int)(q:ae)(r s t:Int)(k1:I7 (Op α)):Op α:=
 xD α m a q r s t
 (fun b c d w=>BZ α w a o p
 (fun e g h z=>ci α z b c d b c d
 (fun i j l A=>ci α A e g h e g h
 (fun B C D F=>mw α F i j l B C D
 (fun G H I J=>k1 i j l G H I J)))))
def C7:Va:=sld VN
def Y2 (v:Va)(α:Type)(k:RT α):Int->Int->Int->Int->Int->Int->Int->ae->Int->Int->Int->Op α:=fun a b c d s t w e g h i=>v α a b c d e g h i (fun j l m o p q r=>ZZ k j l m o p q r)
theorem anc:ak Pg 207 32 ⟨g9,Y2 C7⟩:=iP ek7 aB3 (ah Tryz.func207 (by kernel_rfl)) aEv fun _ _=>by kernel_rfl
def aBT:SG:=[(5,iS 2),(12,iT),(14,iT)]
def aH9:TG:=[tT 0 [1,2],tT 1 [1,2,4],tT 2 [1,2,4,8],tT 3 [2,3],tT 4 [2,3]]
def aF9:aq:=aw Pg Tryz.f214 aH9 aC
noncomputable abbrev Lk8:List bA:=⟨254,54,[⟨br,UK EP⟩]⟩::⟨257,12,[⟨Ug,ZD HU⟩]⟩::⟨158,28,[⟨kh,VK EQ⟩]⟩::⟨207,32,[⟨g9,Y2 C7⟩]⟩::⟨132,31,[⟨kh,RF sB⟩]⟩::Lk7
theorem ak8:bG Lk8 fun c=>bG c.l (ak Pg c.f c.nt):=⟨⟨amR,trivial⟩,⟨apt,trivial⟩,⟨arX,trivial⟩,⟨anc,trivial⟩,⟨amB,trivial⟩,ak7⟩
def Ek8:aE:=aE.ofIO Lk8 bt io0
theorem ek8:Ek8.Ok Pg:=aE.ofIO_ok aN ak8
def Tg (α:Type)(a b:Int)(k1:Nat->Nat->Int->Int->Op α):Op α:=
 xU α a b (-1099511627776)
 (fun c=>cK (c != 0)
 (k1 0 0 0 c)
 (EP α a b
 (fun d e g h=>k1 d e g h)))
def xf:fL:=sld Tg
def T5 (v:fL)(α:Type)(k:RT α):Int->Int->Op α:=fun a b=>v α a b (fun c d e g=>bF k c d e g)
theorem auo:ak Pg 214 18 ⟨ba,T5 xf⟩:=iP ek8 aF9 (ah Tryz.func214 (by kernel_rfl)) aBT fun _ _=>by kernel_rfl
def GP:SG:=[(9,[.cpx .f64,.int .i64]),(19,iS 3),(27,iS 3)]
def aDt:TG:=[tT 0 [1,2,4],tT 1 [1,4,6,7],tT 2 [1,4,6,7,14],tT 3 [4,5],tT 4 [4,6,7],tT 5 [4,6,7,24],tT 6 [4,5],tT 7 [4,5]]
def Hn:aq:=aw Pg Tryz.f194 aDt aC
abbrev zV:Type 1:=(α:Type)->Nat->Nat->Int->Int->(Nat->Nat->Int->Int->Op α)->Op α
def Tu (α:Type)(d e:Nat)(a g:Int)(k1:Nat->Nat->Int->Int->Op α):Op α:=
 fk α d e a
 (fun h i b=>cK (b != 0)
 (k1 0 0 0 b)
 (Ko α h i g
 (fun j l c=>cK (c != 0)
 (k1 0 0 0 c)
 (fZ α j l a
 (fun m o p q=>k1 m o p q)))))
def Il:zV:=sld Tu
def XC:PT (List DV):=pA [pV true [(dX .f64),(dI .i64)],pV false [(dFn 230 [(dP [(dI .i64)] 0)])]]
def VM (v:zV)(α:Type)(k:RT α):Nat->Nat->Int->Int->Op α:=fun a b c d=>v α a b c d (fun e g h i=>bF k e g h i)
theorem aqP:ak Pg 194 31 ⟨XC,VM Il⟩:=iP ek8 Hn (ah Tryz.func194 (by kernel_rfl)) GP fun _ _=>by kernel_rfl
abbrev kp:Type 1:=(α:Type)->Nat->Nat->Int->Int->Int->Int->(Nat->Nat->Int->Int->Op α)->Op α
def SS (α:Type)(c d:Nat)(a e g h:Int)(k1:Nat->Nat->Int->Int->Op α):Op α:=
 fk α c d a
 (fun i j b=>cK (b != 0)
 (k1 0 0 0 b)
 (HU α i j a e g h
 (fun l m o=>fZ α l m o
 (fun p q r s=>k1 p q r s))))
def Jv:kp:=sld SS
def T8:PT (List DV):=pA [pV true [(dX .f64),(dI .i64)],pV false [(dFn 257 [(dP [(dFn 217 [])] 0),(dP [(dI .i64),(dI .i64),(dI .i64)] 0)])]]
def V1 (v:kp)(α:Type)(k:RT α):Nat->Nat->I4 (Op α):=fun a b c d e g=>v α a b c d e g (fun h i j l=>bF k h i j l)
theorem an2:ak Pg 194 31 ⟨T8,V1 Jv⟩:=iP ek8 Hn (ah Tryz.func194 (by kernel_rfl)) GP fun _ _=>by kernel_rfl
def axg:aE:=aE.ofIO (⟨257,12,[⟨VT,P8 Im⟩]⟩::Lk8) bt io0
theorem anJ:axg.Ok Pg:=aE.ofIO_ok aN ⟨⟨au2,trivial⟩,ak8⟩
def WB (α:Type)(c d:Nat)(a e g h:Int)(k1:Nat->Nat->Int->Int->Op α):Op α:=
 fk α c d a
 (fun i j b=>cK (b != 0)
 (k1 0 0 0 b)
 (Im α i j a e g h
 (fun l m o=>fZ α l m o
 (fun p q r s=>k1 p q r s))))
def Ir:kp:=sld WB
def Sc:PT (List DV):=pA [pV true [(dX .f64),(dI .i64)],pV false [(dFn 257 [(dP [(dFn 219 [])] 0),(dP [(dI .i64),(dI .i64),(dI .i64)] 0)])]]
def XI (v:kp)(α:Type)(k:RT α):Nat->Nat->I4 (Op α):=fun a b c d e g=>v α a b c d e g (fun h i j l=>bF k h i j l)
theorem arl:ak Pg 194 31 ⟨Sc,XI Ir⟩:=iP anJ Hn (ah Tryz.func194 (by kernel_rfl)) GP fun _ _=>by kernel_rfl
def ayL:aE:=aE.ofIO (⟨257,12,[⟨Wy,Ra Ii⟩]⟩::Lk8) bt io0
theorem atB:ayL.Ok Pg:=aE.ofIO_ok aN ⟨⟨auM,trivial⟩,ak8⟩
def Yn (α:Type)(c d:Nat)(a e g h:Int)(k1:Nat->Nat->Int->Int->Op α):Op α:=
 fk α c d a
 (fun i j b=>cK (b != 0)
 (k1 0 0 0 b)
 (Ii α i j a e g h
 (fun l m o=>fZ α l m o
 (fun p q r s=>k1 p q r s))))
def KQ:kp:=sld Yn
def Zu:PT (List DV):=pA [pV true [(dX .f64),(dI .i64)],pV false [(dFn 257 [(dP [(dFn 227 [])] 0),(dP [(dI .i64),(dI .i64),(dI .i64)] 0)])]]
def Yw (v:kp)(α:Type)(k:RT α):Nat->Nat->I4 (Op α):=fun a b c d e g=>v α a b c d e g (fun h i j l=>bF k h i j l)
theorem aql:ak Pg 194 31 ⟨Zu,Yw KQ⟩:=iP atB Hn (ah Tryz.func194 (by kernel_rfl)) GP fun _ _=>by kernel_rfl
abbrev zN:Type 1:=(α:Type)->Nat->Nat->Int->(Nat->Nat->Int->Int->Op α)->Op α
def Yj (α:Type)(d e:Nat)(a:Int)(k1:Nat->Nat->Int->Int->Op α):Op α:=
 fk α d e a
 (fun g h b=>cK (b != 0)
 (k1 0 0 0 b)
 (rC α g h a
 (fun i j l c=>cK (c != 0)
 (k1 0 0 0 c)
 (fZ α i j l
 (fun m o p q=>k1 m o p q)))))
def II:zN:=sld Yj
def XQ:PT (List DV):=pA [pV true [(dX .f64),(dI .i64)],pV false [(dFn 195 [])]]
def Sa (v:zN)(α:Type)(k:RT α):Nat->Nat->Int->Op α:=fun a b c=>v α a b c (fun d e g h=>bF k d e g h)
theorem asw:ak Pg 194 31 ⟨XQ,Sa II⟩:=iP ek8 Hn (ah Tryz.func194 (by kernel_rfl)) GP fun _ _=>by kernel_rfl
def awG:aE:=aE.ofIO (⟨257,12,[⟨Vo,WC Jw⟩]⟩::Lk8) bt io0
theorem amu:awG.Ok Pg:=aE.ofIO_ok aN ⟨⟨anR,trivial⟩,ak8⟩
def SH (α:Type)(d e:Nat)(a g h i:Int)(k1:Nat->Nat->Int->Int->Op α):Op α:=
 fk α d e a
 (fun j l b=>cK (b != 0)
 (k1 0 0 0 b)
 (Jw α j l a g h i
 (fun m o p c=>cK (c != 0)
 (k1 0 0 0 c)
 (fZ α m o p
 (fun q r s t=>k1 q r s t)))))
def H7:kp:=sld SH
def YR:PT (List DV):=pA [pV true [(dX .f64),(dI .i64)],pV false [(dFn 257 [(dP [(dFn 223 [])] 0),(dP [(dI .i64),(dI .i64),(dI .i64)] 0)])]]
def Vc (v:kp)(α:Type)(k:RT α):Nat->Nat->I4 (Op α):=fun a b c d e g=>v α a b c d e g (fun h i j l=>bF k h i j l)
theorem aqY:ak Pg 194 31 ⟨YR,Vc H7⟩:=iP amu Hn (ah Tryz.func194 (by kernel_rfl)) GP fun _ _=>by kernel_rfl
def aAa:SG:=[(9,iT),(14,[.cpx .f64,.int .i64]),(20,iS 4)]
def aFX:TG:=[tT 0 [0,3,4],tT 1 [0,3,4,10],tT 2 [0,4],tT 3 [0,3,4,5],tT 4 [0,4,5],tT 5 [0,4]]
def aEs:aq:=aw Pg Tryz.f129 aFX aC
def ZT:PT (List RV):=pRs [pR true [rD (dI .i64),rD (dI .i64),rD (dI .i64),rD (dI .i64)],pR true [rD (dI .i64),rD (dI .i64),rD (dI .i64),rD (dI .i64),rD (dI .i64),rD (dI .i64),rD (dI .i64),rD dL,rD (dI .i64),rD (dI .i64)]]
def Hm {β:Type}(g:List RV->β):Int->Int->Int->Int->Int->Int->Int->Int->Int->Int->Int->ae->Int->Int->β:=ZT.unc g
abbrev WD:Type 1:=(α:Type)->Int->Nat->Nat->Int->(I5 (Op α))->Op α
def T6 (α:Type)(a:Int)(b c:Nat)(d:Int)(k1:I5 (Op α)):Op α:=
 cK (a != 0)
 (k1 0 0 0 0 a)
 (EQ α b c d
 (fun e g h i j=>k1 e g h i j))
def nH:WD:=sld T6
def SF:PT (List DV):=pA [pV false [(dMr [(dI .i64),(dI .i64),(dI .i64),(dI .i64),(dI .i64),(dI .i64),(dI .i64),dL,(dI .i64),(dI .i64)] 0)],pV true [(dX .f64),(dI .i64)]]
def Qw (v:WD)(α:Type)(k:RT α):Int->Int->Int->Int->Int->Int->Int->ae->Int->Int->Nat->Nat->Int->Op α:=fun a b c d e g h i j l m o p=>v α a m o p (fun q r s t w=>Hm k q r s t w b c d e g h i j l)
theorem apQ:ak Pg 129 21 ⟨SF,Qw nH⟩:=iP ek8 aEs (ah Tryz.func129 (by kernel_rfl)) aAa fun _ _=>by kernel_rfl
def aDD:SG:=[(4,[.cpx .f64,.int .i64])]
def aDX:TG:=[tT 0 [1,2],tT 1 [2,3]]
def aGd:aq:=aw Pg Tryz.f163 aDX aC
noncomputable abbrev Lk9:List bA:=⟨194,31,[⟨XQ,Sa II⟩]⟩::⟨129,21,[⟨SF,Qw nH⟩]⟩::⟨214,18,[⟨ba,T5 xf⟩]⟩::Lk8
theorem ak9:bG Lk9 fun c=>bG c.l (ak Pg c.f c.nt):=⟨⟨asw,trivial⟩,⟨apQ,trivial⟩,⟨auo,trivial⟩,ak8⟩
def Ek9:aE:=aE.ofIO Lk9 bt io0
theorem ek9:Ek9.Ok Pg:=aE.ofIO_ok aN ak9
def X9 (α:Type)(a b:Nat)(c:Int)(k1:Nat->Nat->Int->Int->Op α):Op α:=
 II α a b c
 (fun d e g h=>k1 d e g h)
def yd:zN:=sld X9
def Tx (v:zN)(α:Type)(k:RT α):Nat->Nat->Int->Op α:=fun a b c=>v α a b c (fun d e g h=>bF k d e g h)
theorem asB:ak Pg 163 8 ⟨kh,Tx yd⟩:=iP ek9 aGd (ah Tryz.func163 (by kernel_rfl)) aDD fun _ _=>by kernel_rfl
def aDA:SG:=[(6,[.cpx .f64,.int .i64])]
def aDI:TG:=[tT 0 [2,3,4],tT 1 [4,5]]
def aBU:aq:=aw Pg Tryz.f192 aDI aC
def azj:aE:=aE.ofIO (⟨194,31,[⟨XC,VM Il⟩]⟩::Lk9) bt io0
theorem aoH:azj.Ok Pg:=aE.ofIO_ok aN ⟨⟨aqP,trivial⟩,ak9⟩
def S5 (α:Type)(a b:Nat)(c d:Int)(k1:Nat->Nat->Int->Int->Op α):Op α:=
 Il α a b c d
 (fun e g h i=>k1 e g h i)
def so:zV:=sld S5
def TM:PT (List DV):=pA [pV true [(dX .f64),(dI .i64)],vI]
def U8 (v:zV)(α:Type)(k:RT α):Nat->Nat->Int->Int->Op α:=fun a b c d=>v α a b c d (fun e g h i=>bF k e g h i)
theorem atA:ak Pg 192 11 ⟨TM,U8 so⟩:=iP aoH aBU (ah Tryz.func192 (by kernel_rfl)) aDA fun _ _=>by kernel_rfl
def aDa:SG:=[(14,[.int .i64,.int .i64,.int .i64,.int .i64,.int .i64,.int .i64,.sl,.int .i64,.int .i64]),(22,iT),(26,[.int .i64,.int .i64,.int .i64,.int .i64,.int .i64,.int .i64,.sl,.int .i64,.int .i64]),(32,iS 3),(37,iS 3),(38,iS 3),(42,iS 2),(47,iS 3),(49,iT)]
def aFE:TG:=[tT 0 [0,2,4,6,7],tT 1 [0,2,4,6,7,9,10],tT 2 [0,2,4,6,7,9,10,23],tT 3 [0,6,7,8],tT 4 [0,6,7,9,10,30],tT 5 [0,6,7,8],tT 6 [0,6,7,9,11],tT 7 [0,6,7,8]]
def aHG:aq:=aw Pg Tryz.f173 aFE aC
def aaR:PT (List RV):=pRs [pR true [rD (dI .i64),rD (dI .i64),rD (dI .i64)],pR true [rD (dI .i64),rD (dI .i64),rD (dI .i64)],pR false [rD dB],pR true [rD (dI .i64)]]
def abj {β:Type}(g:List RV->β):Int->Int->Int->Int->Int->Int->Bool->Int->β:=aaR.unc g
abbrev Y8:Type 1:=(α:Type)->Int->Int->Int->Int->ae->Int->Int->Int->(Int->Int->Int->Int->Int->Int->Bool->Int->Op α)->Op α
def WK (α:Type)(q b r s:Int)(c:ae)(d e g:Int)(k1:Int->Int->Int->Int->Int->Int->Bool->Int->Op α):Op α:=
 C7 α q b r s c d e g
 (fun h i j l m o a=>cK (a != 0)
 (k1 0 0 0 0 0 0 false a)
 (rZ α b c d e g
 (fun R T U V t=>cK (t != 0)
 (yM α l m o
 (fun w z A B=>dt α a w z A B
 (fun C D F G=>k1 C D F h i j false G)))
 (o4 α l m o
 (fun p H W X=>yb α p H
 (fun I J L M=>dt α a I J L M
 (fun N O P Q=>k1 N O P h i j (decide (p < 0)) Q)))))))
def ou:Y8:=sld WK
def Wh (v:Y8)(α:Type)(k:RT α):Int->Int->Int->Int->Int->Int->Int->ae->Int->Int->Int->Op α:=fun a b c d t w z e g h i=>v α a b c d e g h i (fun j l m o p q r s=>abj k j l m o p q r s)
theorem amY:ak Pg 173 51 ⟨g9,Wh ou⟩:=iP ek9 aHG (ah Tryz.func173 (by kernel_rfl)) aDa fun _ _=>by kernel_rfl
end
end Go.AM.K
