/- Printed by KGen. -/
import Derived.Test.YtmcplmhohldpjaaGreatRa
namespace Go.AM.K
open Go.Proofs
set_option maxRecDepth 100000
set_option linter.unusedVariables false
noncomputable section
def amQ:SG:=[(4,iT),(8,iT)]
def anr:TG:=[tT 0 [1],tT 1 [2]]
def apz:au:=aD Pg Tryz.f158 anr aX
def QO (α:Type)(a b:Int)(k1:Bool->Op α):Op α:=
 oc α a 0 2
 (fun c=>cK c
 (oc α b 0 1
 (fun d=>k1 d))
 (k1 false))
def zB:bS:=sld QO
def NG (v:bS)(α:Type)(k:RT α):I9 (Op α):=fun a b d e g h i j l=>v α a b (fun c=>bG k c)
theorem acK:al Pg 158 11 ⟨wn,NG zB⟩:=iP ek1 apz (ah Tryz.func158 (by kernel_rfl)) amQ fun _ _=>by kernel_rfl
def aoo:TG:=[tT 0 [0],tT 1 [2]]
def apx:au:=aD Pg Tryz.f109 aoo aX
def FQ (α:Type)(a:Int)(k1:Bool->Op α):Op α:=
 jG α a 0 1000000
 (fun b=>k1 b)
def rm:hZ:=sld FQ
def Nl (v:hZ)(α:Type)(k:RT α):Int->Op α:=fun a=>v α a (fun b=>bG k b)
theorem aeV:al Pg 109 5 ⟨bC,Nl rm⟩:=iP ek1 apx (ah Tryz.func109 (by kernel_rfl)) bw fun _ _=>by kernel_rfl
def aqU:TG:=[tT 0 [0],tT 1 [2]]
def aoa:au:=aD Pg Tryz.f108 aqU aX
def yQ (α:Type)(a:Int)(k1:Bool->Op α):Op α:=
 jG α a 0 80000
 (fun b=>k1 b)
def oL:hZ:=sld yQ
def Qf (v:hZ)(α:Type)(k:RT α):Int->Op α:=fun a=>v α a (fun b=>bG k b)
theorem af8:al Pg 108 5 ⟨bC,Qf oL⟩:=iP ek1 aoa (ah Tryz.func108 (by kernel_rfl)) bw fun _ _=>by kernel_rfl
def anb:TG:=[tT 0 [0],tT 1 [2]]
def aqw:au:=aD Pg Tryz.f107 anb aX
def yj (α:Type)(a:Int)(k1:Bool->Op α):Op α:=
 jG α a 5000 80000
 (fun b=>k1 b)
def kJ:hZ:=sld yj
def O6 (v:hZ)(α:Type)(k:RT α):Int->Op α:=fun a=>v α a (fun b=>bG k b)
theorem ac0:al Pg 107 5 ⟨bC,O6 kJ⟩:=iP ek1 aqw (ah Tryz.func107 (by kernel_rfl)) bw fun _ _=>by kernel_rfl
def aob:TG:=[tT 0 [1,2,3],tT 1 [6]]
def app:au:=aD Pg Tryz.f106 aob aX
def Rt (α:Type)(c d a b:Int)(k1:Bool->Op α):Op α:=
 qx α c a b
 (fun e=>cK e
 (qx α d a b
 (fun g=>k1 g))
 (k1 false))
def Bf:j8:=sld Rt
def NT (v:j8)(α:Type)(k:RT α):I4 (Op α):=fun a b c d=>v α a b c d (fun e=>bG k e)
theorem agx:al Pg 106 19 ⟨pM,NT Bf⟩:=iP ek1 app (ah Tryz.func106 (by kernel_rfl)) ahz fun _ _=>by kernel_rfl
def ar5:SG:=[(4,[.sl]),(7,[.sl]),(11,[.sl]),(16,[.sl,.sl,.int .i64,.sl,.int .i64,.int .i64])]
def atL:TG:=[(0,⟨[1,2],true,[⟨true,2,0,30200,3⟩,⟨true,2,1,30201,2⟩,⟨true,2,3,30203,9⟩],[]⟩),(1,⟨[1,2],true,[⟨true,2,0,30200,3⟩,⟨true,2,1,30201,2⟩,⟨true,2,3,30203,9⟩],[]⟩),(2,⟨[2],true,[⟨true,2,0,30200,3⟩,⟨true,2,1,30201,2⟩,⟨true,2,3,30203,9⟩],[]⟩)]
def arD:au:=aD Pg Tryz.f23 atL aX
def UX:PT (List RV):=pRs [pR true [rO 3,rO 2,rD (dI .i64),rO 9,rD (dI .i64),rD (dI .i64)]]
def Tu {β:Type}(g:List RV->β):ae->ae->Int->ae->Int->Int->β:=UX.unc g
abbrev TY:Type 1:=(α:Type)->ae->ae->ae->(ae->ae->ae->Op α)->Op α
def YM (α:Type)(b c a:ae)(k1:ae->ae->ae->Op α):Op α:=
 Lx α b
 (fun d=>L2 α c
 (fun e=>gK (fj 9 72 ([]:ae) a) (k1 d e (([]:ae)++a))))
def A8:TY:=sld YM
def Y8 (v:TY)(α:Type)(k:RT α):ae->ae->Int->ae->Int->Int->Op α:=fun a b c d e g=>v α a b d (fun h i j=>Tu k h i c j e g)
theorem akj:al Pg 23 17 ⟨kW,Y8 A8⟩:=iP ek1 arD (ah Tryz.func23 (by kernel_rfl)) ar5 fun _ _=>by kernel_rfl
def Kl:SG:=[(5,[.sl,.sl,.int .i64,.sl,.int .i64,.int .i64]),(10,[.sl]),(15,[.sl]),(22,[.sl]),(28,[.sl]),(34,[.sl]),(36,iS 9),(37,iS 9),(40,iT),(45,iT),(48,iT),(55,iT),(60,iT),(63,iT)]
def auh:TG:=[tT 0 [1],tT 1 [1,25],tT 2 [2],tT 3 [1,3],tT 4 [1,3,30],tT 6 [1,3,4],tT 7 [1,3,67],tT 8 [2],tT 5 [1,3],tT 9 [2]]
def asc:TG:=[(4,⟨[1,3],true,[⟨true,1,0,30100,3⟩,⟨true,1,1,30101,2⟩,⟨true,1,3,30103,9⟩],[]⟩)]
def RG:au:=aD Pg Tryz.f21 auh asc
def tR:OT:=tdC (ag.sub [1,1,0,1,0] (emb RG))
def E3:PT St:=pS [sP 1] [aB 1 [(cD dL),(cD dL),xI,(cD dL),xI,xI]]
def arv {β:Type}(g:St->β):ae->ae->Int->ae->Int->Int->β:=E3.unc g
def acn:PT St:=pS [sY 2 dB] []
def sn {β:Type}(g:St->β):Bool->β:=acn.unc g
def adl:PT St:=pS [sP 1,sY 25 dB] [aB 1 [(cD dL),(cD dL),xI,(cD dL),xI,xI]]
def aci {β:Type}(g:St->β):Bool->ae->ae->Int->ae->Int->Int->β:=adl.unc g
def xR:PT St:=pS [sP 1,sI 3,sP 4] [aB 1 [(cD dL),(cD dL),xI,(cD dL),xI,xI],aB 4 (xs 9)]
def arn {β:Type}(g:St->β):Int->ae->ae->Int->ae->I11 β:=xR.unc g
def abK:PT St:=pS [sP 1,sI 3,sY 67 dB] [aB 1 [(cD dL),(cD dL),xI,(cD dL),xI,xI]]
def adI {β:Type}(g:St->β):Int->Bool->ae->ae->Int->ae->Int->Int->β:=abK.unc g
def Gs:PT St:=pS [sP 1,sI 3] [aB 1 [(cD dL),(cD dL),xI,(cD dL),xI,xI]]
def E7 {β:Type}(g:St->β):Int->ae->ae->Int->ae->Int->Int->β:=Gs.unc g
def aco:PT St:=pS [sP 1,sI 3,sY 30 dB] [aB 1 [(cD dL),(cD dL),xI,(cD dL),xI,xI]]
def xJ {β:Type}(g:St->β):Int->Bool->ae->ae->Int->ae->Int->Int->β:=aco.unc g
def Vw:ag:=ag.sub [1,1,0,1,0,0,1,0,0,1,0] (emb RG)
def JI (α:Type)(a b c d:Int)(k1:Bool->Op α):Op α:=
 dO α c 1000 200000
 (fun e=>cK e
 (dO α d (w64 (c+200)) 200000
 (fun g=>cK g
 (k1 true)
 (dO α a 0 9999
 (fun h=>cK h
 (dO α b (w64 (a+200)) 9999
 (fun i=>k1 i))
 (k1 false)))))
 (dO α a 0 9999
 (fun j=>cK j
 (dO α b (w64 (a+200)) 9999
 (fun l=>k1 l))
 (k1 false))))
def pW:j8:=sld JI
def Fh (v:j8)(α:Type)(K:KT α):Int->ae->ae->Int->ae->I11 (Op α):=fun a b c d e g h p q r i j l m s t=>v α i j l m (fun o=>adI (K .normal) a o b c d e g h)
theorem afe:∀ (α:Type) (K:KT α),Fh pW α K=xR.unc fun σ=>aF Pg Ek1 Kl Vw K σ:=bM (fun α K=>by kernel_rfl)
def rK:ag:=ag.sub [1,1,0,1,0,0] (ag.put (.m [⟨xR,Fh pW⟩]) [1,1,0,1,0,0,1,0,0,1] (emb RG))
def ux (α:Type)(b:ae)(a:Int)(kn:Int->Op α)(k1:Op α)(k2:Int->Bool->Op α):Op α:=
 cK (decide (a < ((List.length b:Nat):Int)))
 (gq b a [.int .i64,.int .i64,.int .i64,.int .i64,.int .i64,.int .i64,.int .i64,.int .i64,.int .i64]
 (fun i j l c d e g m o=>pW α c d e g
 (fun h=>cK h
 (k1)
 (kn (w64 (a+1))))))
 (k2 a (decide (a < ((List.length b:Nat):Int))))
def mJ (α:Type)(a:ae)(k1:Op α)(k2:Int->Bool->Op α):Nat->Int->Op α
 | 0,_=>none
 | n+1,b=>ux α a b (mJ α a k1 k2 n) k1 k2
def H1 (α:Type)(a:ae)(k1:Op α)(k2:Int->Bool->Op α)(b:Int):Op α:=mJ α a k1 k2 aN b
abbrev HG:Type 1:=(α:Type)->ae->(Op α)->(Int->Bool->Op α)->Int->Op α
def iJ:HG:=sld H1
def L9 (v:HG)(α:Type)(K:KT α):Int->ae->ae->Int->ae->Int->Int->Op α:=fun b c d e a g h=>v α a (sn (K .ret) false) (fun i j=>xJ (K (.exit 0)) i j c d e a g h) b
theorem acF (α:Type)(K:KT α)(Kn:SK α)(a:Int)(c d:ae)(e:Int)(b:ae)(g h:Int):E7 (fun σ=>aF Pg Ek1 Kl rK (di (fun σ=>bR tR σ Kn) K) σ) a c d e b g h=ux α b a (fun a=>E7 Kn a c d e b g h) (sn (K .ret) false) (fun i j=>xJ (K (.exit 0)) i j c d e b g h):=by kernel_rfl
theorem adw (α:Type)(K:KT α):∀ (n:Nat) (b:Int) (c d:ae) (e:Int) (a:ae) (g h:Int),mJ α a (sn (K .ret) false) (fun i j=>xJ (K (.exit 0)) i j c d e a g h) n b=E7 (aS (aF Pg Ek1 Kl rK) tR K n) b c d e a g h:=by
 intro n
 induction n with
 | zero=>intros;rfl
 | succ n ih=>intro b c d e a g h;exact (congrArg (fun kn=>ux α a b kn (sn (K .ret) false) (fun i j=>xJ (K (.exit 0)) i j c d e a g h)) (funext fun b=>ih b c d e a g h)).trans (acF α K (aS (aF Pg Ek1 Kl rK) tR K n) b c d e a g h).symm
theorem abL:∀ (α:Type) (K:KT α),L9 iJ α K=Gs.unc fun σ=>aS (aF Pg Ek1 Kl rK) tR K aN σ:=bM (fun α K=>funext fun a=>funext fun b=>funext fun c=>funext fun d=>funext fun e=>funext fun g=>funext fun h=>adw α K aN a b c d e g h)
def ado:ag:=ag.sub [1,0] (emb RG)
abbrev HB:Type 1:=(α:Type)->ae->ae->ae->(Op α)->(Bool->Op α)->Op α
def GS (α:Type)(b c a:ae)(k1:Op α)(k2:Bool->Op α):Op α:=
 Pz α b c a
 (fun d=>cK (!d)
 (k1)
 (cK (decide (3 < ((List.length b:Nat):Int)))
 (cK (decide (((List.length b:Nat):Int)<=40))
 (k1)
 (cK (decide (2 < ((List.length a:Nat):Int)))
 (k1)
 (k2 (decide (2 < ((List.length a:Nat):Int))))))
 (cK (decide (2 < ((List.length a:Nat):Int)))
 (k1)
 (k2 (decide (2 < ((List.length a:Nat):Int)))))))
def yh:HB:=sld GS
def QZ (v:HB)(α:Type)(K:KT α):ae->ae->Int->ae->Int->Int->Op α:=fun a b d c e g=>v α a b c (sn (K .ret) false) (fun h=>aci (K .normal) h a b d c e g)
theorem afl:∀ (α:Type) (K:KT α),QZ yh α K=E3.unc fun σ=>aF Pg Ek1 Kl ado K σ:=bM (fun α K=>by kernel_rfl)
def aaa (α:Type)(b c a:ae)(k1:Bool->Op α):Op α:=
 yh α b c a
 (k1 false)
 (fun d=>iJ α a
 (k1 false)
 (fun e g=>k1 true) 0)
def Dt:Eu:=sld aaa
def XC (v:Eu)(α:Type)(k:RT α):ae->ae->Int->ae->Int->Int->Op α:=fun a b e c g h=>v α a b c (fun d=>bG k d)
def al5:ag:=(ag.put (.m [⟨E3,QZ yh⟩]) [1] (ag.put (.m [⟨Gs,L9 iJ⟩]) [1,1,0,1,0] (ag.put (.m [⟨xR,Fh pW⟩]) [1,1,0,1,0,0,1,0,0,1] (emb RG))))
theorem ajs:al Pg 21 68 ⟨kW,XC Dt⟩:=iZ ek1 (ah Tryz.func21 (by kernel_rfl)) Kl al5 ((aw _ _).trans ((aw _ _).trans ((aw _ _).trans (aG _)))) (aY (by kernel_rfl) (bJ (td:=tR) (by kernel_rfl) (aY (by kernel_rfl) (aM RG) ⟨afe,TT⟩) ⟨abL,TT⟩) ⟨afl,TT⟩) fun _ _=>by kernel_rfl
def aq7:SG:=[(9,iS 4),(10,iS 4),(15,iS 2),(18,iS 2),(20,iS 2),(25,iS 8),(27,iS 2),(30,iS 2),(33,iS 2),(35,iS 2),(40,iS 8),(42,iS 2)]
def aod:TG:=[tT 0 [1,2,4],tT 1 [1,2,4,6],tT 2 [2,4,6,13],tT 3 [2,4,6,7],tT 4 [2,4,6],tT 5 [4,5],tT 6 [2,4,6,8],tT 7 [2,4,6],tT 8 [4,5]]
def anT:au:=aD Pg Tryz.f122 aod aX
def S8:PT (List RV):=pRs [pR true [rD (dI .i64),rD (dI .i64),rD (dI .i64),rD (dI .i64),rD (dI .i64),rD (dI .i64),rD (dI .i64),rD (dI .i64)],pR false [rD dB]]
def So {β:Type}(g:List RV->β):Int->Int->Int->Int->Int->Int->Int->Int->Bool->β:=S8.unc g
noncomputable abbrev Lk2:List bz:=⟨162,15,[⟨bB,Px v8⟩]⟩::⟨89,10,[⟨ed,abh dS⟩]⟩::⟨141,25,[⟨bC,Nb eM⟩]⟩::⟨203,6,[⟨yR,N3 ze⟩]⟩::⟨140,10,[⟨ed,Q9 jy⟩]⟩::⟨205,15,[⟨Le,NI E1⟩]⟩::⟨116,5,[⟨bC,QD zU⟩]⟩::⟨117,5,[⟨bC,OO B7⟩]⟩::⟨158,11,[⟨wn,NG zB⟩]⟩::⟨159,19,[⟨pM,LS vb⟩]⟩::⟨107,5,[⟨bC,O6 kJ⟩]⟩::⟨108,5,[⟨bC,Qf oL⟩]⟩::⟨109,5,[⟨bC,Nl rm⟩]⟩::⟨106,19,[⟨pM,NT Bf⟩]⟩::⟨196,32,[⟨qc,Mn v4⟩]⟩::⟨171,17,[⟨ed,Ns mF⟩]⟩::⟨167,17,[⟨j3,Rb FJ⟩]⟩::⟨177,17,[⟨j3,OI EN⟩]⟩::⟨41,25,[⟨TA,abj xm⟩]⟩::⟨121,36,[⟨Ls,Li jN⟩]⟩::⟨21,68,[⟨kW,XC Dt⟩]⟩::⟨23,17,[⟨kW,Y8 A8⟩]⟩::⟨25,16,[⟨qc,abC wJ⟩]⟩::Lk1
theorem ak2:bF Lk2 fun c=>bF c.l (al Pg c.f c.nt):=⟨⟨aeg,TT⟩,⟨ajU,TT⟩,⟨agJ,TT⟩,⟨ahb,TT⟩,⟨adM,TT⟩,⟨ahn,TT⟩,⟨aeI,TT⟩,⟨adC,TT⟩,⟨acK,TT⟩,⟨acA,TT⟩,⟨ac0,TT⟩,⟨af8,TT⟩,⟨aeV,TT⟩,⟨agx,TT⟩,⟨acO,TT⟩,⟨acd,TT⟩,⟨adK,TT⟩,⟨aeq,TT⟩,⟨amn,TT⟩,⟨afE,TT⟩,⟨ajs,TT⟩,⟨akj,TT⟩,⟨ams,TT⟩,ak1⟩
def Ek2:aE:=aE.ofIO Lk2 bD io0
theorem ek2:Ek2.Ok Pg:=aE.ofIO_ok aO ak2
abbrev MP:Type 1:=(α:Type)->Int->Int->Int->Int->Int->(I4 (Bool->Op α))->Op α
def PR (α:Type)(a b c d e:Int)(k1:I4 (Bool->Op α)):Op α:=
 cK (e == 1)
 (v8 α a b
 (fun g h=>od α a b
 (fun i=>k1 g d h c i)))
 (v8 α c d
 (fun j l=>od α c d
 (fun m=>k1 b j a l m)))
def jt:MP:=sld PR
def MY:PT (List DV):=pA [pV true [(dI .i64),(dI .i64),(dI .i64),(dI .i64)],vI]
def P7 (v:MP)(α:Type)(k:RT α):I5 (Op α):=fun a b c d e=>v α a b c d e (fun g h i j l=>So k a g c h i b j d l)
theorem afA:al Pg 122 44 ⟨MY,P7 jt⟩:=iP ek2 anT (ah Tryz.func122 (by kernel_rfl)) aq7 fun _ _=>by kernel_rfl
def an9:TG:=[tT 0 [0],tT 1 [3],tT 2 [3,4],tT 3 [4,5],tT 4 [4,6],tT 5 [6,23,24],tT 6 [6,23,24,25],tT 7 [6,23,24],tT 8 [6,23,24],tT 9 [2]]
def api:TG:=[tT 6 [6,23,24]]
def MF:au:=aD Pg Tryz.f199 an9 api
def oa:OT:=tdC (ag.sub [1,1,1,1,1,0,1,0] (emb MF))
def zi:PT St:=pS [sI 6,sI 23,sI 24] []
def zo {β:Type}(g:St->β):Int->Int->Int->β:=zi.unc g
def T0:PT St:=pS [sI 6,sI 23,sI 24,sY 25 dB] []
def r8 {β:Type}(g:St->β):Int->Int->Int->Bool->β:=T0.unc g
def ph:ag:=ag.sub [1,1,1,1,1,0,1,0,0] (emb MF)
def oV (α:Type)(c b a:Int)(kn:Int->Int->Op α)(k1:Int->Int->Bool->Op α):Op α:=
 cK (decide (a < c))
 (dS α (w64 (b*b)) 1073741824
 (fun d=>kn d (w64 (a+1))))
 (k1 b a (decide (a < c)))
def lD (α:Type)(a:Int)(k1:Int->Int->Bool->Op α):Nat->Int->Int->Op α
 | 0,_,_=>none
 | n+1,b,c=>oV α a b c (lD α a k1 n) k1
def Ee (α:Type)(a:Int)(k1:Int->Int->Bool->Op α)(b c:Int):Op α:=lD α a k1 aN b c
abbrev qb:Type 1:=(α:Type)->Int->(Int->Int->Bool->Op α)->Int->Int->Op α
def rS:qb:=sld Ee
def GX (v:qb)(α:Type)(K:KT α):Int->Int->Int->Op α:=fun b a c=>v α a (fun d e g=>r8 (K (.exit 0)) d a e g) b c
theorem WN (α:Type)(K:KT α)(Kn:SK α)(a b c:Int):zo (fun σ=>aF Pg Ek2 bw ph (di (fun σ=>bR oa σ Kn) K) σ) a b c=oV α b a c (fun a c=>zo Kn a b c) (fun d e g=>r8 (K (.exit 0)) d b e g):=by kernel_rfl
theorem UE (α:Type)(K:KT α):∀ (n:Nat) (b a c:Int),lD α a (fun d e g=>r8 (K (.exit 0)) d a e g) n b c=zo (aS (aF Pg Ek2 bw ph) oa K n) b a c:=by
 intro n
 induction n with
 | zero=>intros;rfl
 | succ n ih=>intro b a c;exact (congrArg (fun kn=>oV α a b c kn (fun d e g=>r8 (K (.exit 0)) d a e g)) (funext fun b=>funext fun c=>ih b a c)).trans (WN α K (aS (aF Pg Ek2 bw ph) oa K n) b a c).symm
theorem YX:∀ (α:Type) (K:KT α),GX rS α K=zi.unc fun σ=>aS (aF Pg Ek2 bw ph) oa K aN σ:=bM (fun α K=>funext fun a=>funext fun b=>funext fun c=>UE α K aN a b c)
def MA (α:Type)(b:Int)(k1:Int->Op α):Op α:=
 vd α (w64 (Int.tdiv (w64 ((w64 (256*b))*62831853)) 10000000))
 (fun a=>gK (decide (0<=a)) (dS α (w64 ((Int.fdiv (w64 (Int.tdiv (w64 ((w64 (256*b))*62831853)) 10000000)) (2 ^ (min (Int.toNat a) 64)))*(Int.fdiv (w64 (Int.tdiv (w64 ((w64 (256*b))*62831853)) 10000000)) (2 ^ (min (Int.toNat a) 64))))) 2147483648
 (fun c=>rS α a
 (fun d e g=>k1 d) (w64 ((w64 (1073741824 - (Int.fdiv (w64 (Int.tdiv (w64 ((w64 (256*b))*62831853)) 10000000)) (2 ^ (min (Int.toNat a) 64)))))+c)) 0)))
def wo:dw:=sld MA
def Mz (v:dw)(α:Type)(k:RT α):Int->Op α:=fun a=>v α a (fun b=>bv k b)
def adr:ag:=(ag.put (.m [⟨zi,GX rS⟩]) [1,1,1,1,1,0,1,0] (emb MF))
theorem acg:al Pg 199 32 ⟨bC,Mz wo⟩:=iZ ek2 (ah Tryz.func199 (by kernel_rfl)) bw adr ((aw _ _).trans (aG _)) (bJ (td:=oa) (by kernel_rfl) (aM MF) ⟨YX,TT⟩) fun _ _=>by kernel_rfl
def amZ:TG:=[tT 0 [0],tT 1 [3],tT 2 [3,4],tT 3 [4,5],tT 4 [4,6],tT 5 [6,31,32],tT 6 [6,31,32,33],tT 7 [6,31,32],tT 8 [6,31,32],tT 9 [2]]
def aoM:TG:=[tT 6 [6,31,32]]
def Lg:au:=aD Pg Tryz.f198 amZ aoM
def nl:OT:=tdC (ag.sub [1,1,1,1,1,0,1,0] (emb Lg))
def Bx:PT St:=pS [sI 6,sI 31,sI 32] []
def BL {β:Type}(g:St->β):Int->Int->Int->β:=Bx.unc g
def ZZ:PT St:=pS [sI 6,sI 31,sI 32,sY 33 dB] []
def uA {β:Type}(g:St->β):Int->Int->Int->Bool->β:=ZZ.unc g
def pk:ag:=ag.sub [1,1,1,1,1,0,1,0,0] (emb Lg)
def nr (α:Type)(c b a:Int)(kn:Int->Int->Op α)(k1:Int->Int->Bool->Op α):Op α:=
 cK (decide (a < c))
 (kn (w64 (Int.tdiv (w64 (b*b)) 1073741824)) (w64 (a+1)))
 (k1 b a (decide (a < c)))
def lB (α:Type)(a:Int)(k1:Int->Int->Bool->Op α):Nat->Int->Int->Op α
 | 0,_,_=>none
 | n+1,b,c=>nr α a b c (lB α a k1 n) k1
def Dy (α:Type)(a:Int)(k1:Int->Int->Bool->Op α)(b c:Int):Op α:=lB α a k1 aN b c
def rG:qb:=sld Dy
def JE (v:qb)(α:Type)(K:KT α):Int->Int->Int->Op α:=fun b a c=>v α a (fun d e g=>uA (K (.exit 0)) d a e g) b c
theorem Ze (α:Type)(K:KT α)(Kn:SK α)(a b c:Int):BL (fun σ=>aF Pg Ek2 bw pk (di (fun σ=>bR nl σ Kn) K) σ) a b c=nr α b a c (fun a c=>BL Kn a b c) (fun d e g=>uA (K (.exit 0)) d b e g):=by kernel_rfl
theorem aaW (α:Type)(K:KT α):∀ (n:Nat) (b a c:Int),lB α a (fun d e g=>uA (K (.exit 0)) d a e g) n b c=BL (aS (aF Pg Ek2 bw pk) nl K n) b a c:=by
 intro n
 induction n with
 | zero=>intros;rfl
 | succ n ih=>intro b a c;exact (congrArg (fun kn=>nr α a b c kn (fun d e g=>uA (K (.exit 0)) d a e g)) (funext fun b=>funext fun c=>ih b a c)).trans (Ze α K (aS (aF Pg Ek2 bw pk) nl K n) b a c).symm
theorem aba:∀ (α:Type) (K:KT α),JE rG α K=Bx.unc fun σ=>aS (aF Pg Ek2 bw pk) nl K aN σ:=bM (fun α K=>funext fun a=>funext fun b=>funext fun c=>aaW α K aN a b c)
def NK (α:Type)(d:Int)(k1:Int->Op α):Op α:=
 dS α (w64 ((w64 (256*d))*62831854)) 10000000
 (fun c=>vd α c
 (fun b=>gK (decide (0<=b)) (dS α c (w64 (1*2 ^ (min (Int.toNat b) 64)))
 (fun a=>dS α (w64 ((w64 (a*a))*a)) 6917529027641081856
 (fun e=>rG α b
 (fun g h i=>k1 g) (w64 ((w64 ((w64 (1073741824 - a))+(w64 (Int.tdiv (w64 (a*a)) 2147483648)))) - e)) 0)))))
def Ap:dw:=sld NK
def QR (v:dw)(α:Type)(k:RT α):Int->Op α:=fun a=>v α a (fun b=>bv k b)
def aha:ag:=(ag.put (.m [⟨Bx,JE rG⟩]) [1,1,1,1,1,0,1,0] (emb Lg))
theorem ab3:al Pg 198 40 ⟨bC,QR Ap⟩:=iZ ek2 (ah Tryz.func198 (by kernel_rfl)) bw aha ((aw _ _).trans (aG _)) (bJ (td:=nl) (by kernel_rfl) (aM Lg) ⟨aba,TT⟩) fun _ _=>by kernel_rfl
def apm:SG:=[(7,iS 2),(8,iS 2),(10,iS 2),(14,iT),(19,iT)]
def aoz:TG:=[tT 0 [2,3,4],tT 1 [4,5],tT 2 [4,5,6],tT 3 [4]]
def apA:au:=aD Pg Tryz.f222 aoz aX
def OG (α:Type)(d e g h:Int)(k1:Int->Int->Op α):Op α:=
 vX α d e g h
 (fun b c=>jw α b c
 (fun i=>eM α i
 (fun a=>gK (a != 0) (gK (a != 0) (k1 (w64 (Int.tdiv (w64 (b*67108864)) a)) (w64 (Int.tdiv (w64 (c*67108864)) a)))))))
def Bp:kK:=sld OG
def Mq (v:kK)(α:Type)(k:RT α):I4 (Op α):=fun a b c d=>v α a b c d (fun e g=>de k e g)
theorem aeR:al Pg 222 24 ⟨kN,Mq Bp⟩:=iP ek2 apA (ah Tryz.func222 (by kernel_rfl)) apm fun _ _=>by kernel_rfl
def apr:TG:=[tT 0 [0,1,2],tT 1 [0,1,2,20],tT 2 [0,1,2],tT 3 [0,1,2,24],tT 4 [0,1,2],tT 5 [0,1,2,27],tT 6 [6,7],tT 7 [0,1,2,8],tT 8 [0,1,2,8],tT 9 [0,1,2,8,9],tT 10 [0,1,2,8,9,10],tT 11 [1,2,8,9,10,11],tT 12 [2,8,9,10,11,12],tT 13 [2,8,9,10,11,12,13],tT 14 [2,8,9,10,11,13,14],tT 15 [2,8,9,10,11,13,14,15],tT 16 [2,8,9,10,11,13,14,15,16],tT 17 [2,8,9,10,11,13,14,15,16,78],tT 18 [2,8,9,10,11,13,14,15,16],tT 19 [2,8,9,10,11,13,14,15,16],tT 20 [2,8,9,10,11,13,14,15,16,85],tT 21 [2,8,9,10,14,15,17],tT 22 [2,8,9,10,14,15,17,18],tT 23 [2,8,9,10,14,15,16,17,18],tT 24 [2,8,9,10,14,15,16,17,18,113],tT 25 [2,8,9,10,14,15,16,17,18],tT 26 [2,8,9,10,14,15,16,17,18],tT 27 [2,8,9,10,14,15,16,17,18,120],tT 28 [6,7]]
def aqj:TG:=[tT 17 [2,8,9,10,11,13,14,15,16],tT 24 [2,8,9,10,14,15,16,17,18]]
def qM:au:=aD Pg Tryz.f185 apr aqj
def oQ:OT:=tdC (ag.sub [1,1,1,1,1,1,1,1,1,1,1,1,1,1,0,0] (emb qM))
def nR:OT:=tdC (ag.sub [1,1,1,1,1,1,1,1,1,1,1,1,1,1,1,1,1,1,0,0] (emb qM))
def fL:PT St:=pS [sY 2 (dI .u64),sY 8 (dI .u64),sY 9 (dI .u64),sY 10 (dI .u64),sY 11 (dI .u64),sY 13 (dI .u64),sY 14 (dI .u64),sY 15 (dI .u64),sY 16 (dI .u64)] []
def zh {β:Type}(g:St->β):I9 β:=fL.unc g
def W4:PT St:=pS [sY 2 (dI .u64),sY 8 (dI .u64),sY 9 (dI .u64),sY 10 (dI .u64),sY 11 (dI .u64),sY 13 (dI .u64),sY 14 (dI .u64),sY 15 (dI .u64),sY 16 (dI .u64),sY 78 dB] []
def jz {β:Type}(g:St->β):Int->Int->Int->Int->Int->Int->Int->Int->Int->Bool->β:=W4.unc g
def aae:PT St:=pS [sY 2 (dI .u64),sY 8 (dI .u64),sY 9 (dI .u64),sY 10 (dI .u64),sY 11 (dI .u64),sY 13 (dI .u64),sY 14 (dI .u64),sY 15 (dI .u64),sY 16 (dI .u64),sY 85 dB] []
def oP {β:Type}(g:St->β):Int->Int->Int->Int->Int->Int->Int->Int->Int->Bool->β:=aae.unc g
def fJ:PT St:=pS [sY 2 (dI .u64),sY 8 (dI .u64),sY 9 (dI .u64),sY 10 (dI .u64),sY 14 (dI .u64),sY 15 (dI .u64),sY 16 (dI .u64),sY 17 (dI .u64),sY 18 (dI .u64)] []
def Ag {β:Type}(g:St->β):I9 β:=fJ.unc g
def WK:PT St:=pS [sY 2 (dI .u64),sY 8 (dI .u64),sY 9 (dI .u64),sY 10 (dI .u64),sY 14 (dI .u64),sY 15 (dI .u64),sY 16 (dI .u64),sY 17 (dI .u64),sY 18 (dI .u64),sY 113 dB] []
def jx {β:Type}(g:St->β):Int->Int->Int->Int->Int->Int->Int->Int->Int->Bool->β:=WK.unc g
def Vf:PT St:=pS [sY 2 (dI .u64),sY 8 (dI .u64),sY 9 (dI .u64),sY 10 (dI .u64),sY 14 (dI .u64),sY 15 (dI .u64),sY 16 (dI .u64),sY 17 (dI .u64),sY 18 (dI .u64),sY 120 dB] []
def ng {β:Type}(g:St->β):Int->Int->Int->Int->Int->Int->Int->Int->Int->Bool->β:=Vf.unc g
def SL:ag:=ag.sub [1,1,1,1,1,1,1,1,1,1,1,1,1,1,1,1,1,1,0,0,0,0] (emb qM)
abbrev qd:Type 1:=(α:Type)->Int->Int->Int->Int->(Bool->Op α)->(Bool->Op α)->Op α
def DZ (α:Type)(b c d a:Int)(k1:Bool->Op α)(k2:Bool->Op α):Op α:=
 cK (decide (4294967296<=a))
 (k1 true)
 (cK (decide ((IntKind.wrap .u64 ((IntKind.wrap .u64 (4294967296*d))+c)) < (IntKind.wrap .u64 (a*b))))
 (k1 (decide ((IntKind.wrap .u64 ((IntKind.wrap .u64 (4294967296*d))+c)) < (IntKind.wrap .u64 (a*b)))))
 (k2 (decide ((IntKind.wrap .u64 ((IntKind.wrap .u64 (4294967296*d))+c)) < (IntKind.wrap .u64 (a*b))))))
def lw:qd:=sld DZ
def sR (v:qd)(α:Type)(K:KT α):I9 (Op α):=fun g h i a b j c l d=>v α a b c d (fun e=>jx (K .normal) g h i a b j c l d e) (fun e=>jx (K (.exit 2)) g h i a b j c l d e)
theorem aa6:∀ (α:Type) (K:KT α),sR lw α K=fJ.unc fun σ=>aF Pg Ek2 bw SL K σ:=bM (fun α K=>by kernel_rfl)
def p9:ag:=ag.sub [1,1,1,1,1,1,1,1,1,1,1,1,1,1,1,1,1,1,0,0,0] (ag.put (.m [⟨fJ,sR lw⟩]) [1,1,1,1,1,1,1,1,1,1,1,1,1,1,1,1,1,1,0,0,0] (emb qM))
def uS (α:Type)(b d e a c:Int)(kn:Int->Int->Op α)(k1:Int->Int->Bool->Op α)(k2:Int->Int->Bool->Op α):Op α:=
 lw α d e a c
 (fun h=>cK (decide (4294967296<=(IntKind.wrap .u64 (a+b))))
 (k1 (IntKind.wrap .u64 (a+b)) (IntKind.wrap .u64 (c - 1)) (decide (4294967296<=(IntKind.wrap .u64 (a+b)))))
 (kn (IntKind.wrap .u64 (a+b)) (IntKind.wrap .u64 (c - 1))))
 (fun g=>k2 a c g)
def lg (α:Type)(a b c:Int)(k1:Int->Int->Bool->Op α)(k2:Int->Int->Bool->Op α):Nat->Int->Int->Op α
 | 0,_,_=>none
 | n+1,d,e=>uS α a b c d e (lg α a b c k1 k2 n) k1 k2
def En (α:Type)(a b c:Int)(k1:Int->Int->Bool->Op α)(k2:Int->Int->Bool->Op α)(d e:Int):Op α:=lg α a b c k1 k2 aN d e
abbrev qj:Type 1:=(α:Type)->Int->Int->Int->(Int->Int->Bool->Op α)->(Int->Int->Bool->Op α)->Int->Int->Op α
def ox:qj:=sld En
def AG (v:qj)(α:Type)(K:KT α):I9 (Op α):=fun h i a b c j m l o=>v α a b c (fun d e g=>ng (K (.exit 2)) h i a b c j d l e g) (fun d e g=>jx (K (.exit 2)) h i a b c j d l e g) m o
theorem Xb (α:Type)(K:KT α)(Kn:SK α)(d e a b c g h i j:Int):Ag (fun σ=>aF Pg Ek2 bw p9 (di (fun σ=>bR nR σ Kn) K) σ) d e a b c g h i j=uS α a b c h j (fun h j=>Ag Kn d e a b c g h i j) (fun l m o=>ng (K (.exit 2)) d e a b c g l i m o) (fun l m o=>jx (K (.exit 2)) d e a b c g l i m o):=by kernel_rfl
theorem VB (α:Type)(K:KT α):∀ (n:Nat) (d e a b c g i h j:Int),lg α a b c (fun l m o=>ng (K (.exit 2)) d e a b c g l h m o) (fun l m o=>jx (K (.exit 2)) d e a b c g l h m o) n i j=Ag (aS (aF Pg Ek2 bw p9) nR K n) d e a b c g i h j:=by
 intro n
 induction n with
 | zero=>intros;rfl
 | succ n ih=>intro d e a b c g i h j;exact (congrArg (fun kn=>uS α a b c i j kn (fun l m o=>ng (K (.exit 2)) d e a b c g l h m o) (fun l m o=>jx (K (.exit 2)) d e a b c g l h m o)) (funext fun i=>funext fun j=>ih d e a b c g i h j)).trans (Xb α K (aS (aF Pg Ek2 bw p9) nR K n) d e a b c g i h j).symm
theorem Uk:∀ (α:Type) (K:KT α),AG ox α K=fJ.unc fun σ=>aS (aF Pg Ek2 bw p9) nR K aN σ:=bM (fun α K=>funext fun a=>funext fun b=>funext fun c=>funext fun d=>funext fun e=>funext fun g=>funext fun h=>funext fun i=>funext fun j=>VB α K aN a b c d e g h i j)
def SB:ag:=ag.sub [1,1,1,1,1,1,1,1,1,1,1,1,1,1,1,1,1,1,0] (ag.put (.m [⟨fJ,AG ox⟩]) [1,1,1,1,1,1,1,1,1,1,1,1,1,1,1,1,1,1,0,0] (ag.put (.m [⟨fJ,sR lw⟩]) [1,1,1,1,1,1,1,1,1,1,1,1,1,1,1,1,1,1,0,0,0] (emb qM)))
abbrev pL:Type 1:=(α:Type)->Int->Int->Int->Int->Int->(Int->Int->Bool->Op α)->(Int->Int->Bool->Op α)->Op α
def DL (α:Type)(a b c d e:Int)(k1:Int->Int->Bool->Op α)(k2:Int->Int->Bool->Op α):Op α:=
 ox α a b c
 (fun g h i=>k1 g h i)
 (fun j l m=>k2 j l m) d e
def jo:pL:=sld DL
def IJ (v:pL)(α:Type)(K:KT α):I9 (Op α):=fun h i a b c j m l o=>v α a b c m o (fun d e g=>ng (K .normal) h i a b c j d l e g) (fun d e g=>jx (K .normal) h i a b c j d l e g)
theorem Wf:∀ (α:Type) (K:KT α),IJ jo α K=fJ.unc fun σ=>aF Pg Ek2 bw SB K σ:=bM (fun α K=>by kernel_rfl)
def S7:ag:=ag.sub [1,1,1,1,1,1,1,1,1,1,1,1,1,1,0,0,0,0] (emb qM)
def C3 (α:Type)(b c a d:Int)(k1:Bool->Op α)(k2:Bool->Op α):Op α:=
 cK (decide (4294967296<=a))
 (k1 true)
 (cK (decide ((IntKind.wrap .u64 ((IntKind.wrap .u64 (4294967296*d))+c)) < (IntKind.wrap .u64 (a*b))))
 (k1 (decide ((IntKind.wrap .u64 ((IntKind.wrap .u64 (4294967296*d))+c)) < (IntKind.wrap .u64 (a*b)))))
 (k2 (decide ((IntKind.wrap .u64 ((IntKind.wrap .u64 (4294967296*d))+c)) < (IntKind.wrap .u64 (a*b))))))
def lz:qd:=sld C3
def sK (v:qd)(α:Type)(K:KT α):I9 (Op α):=fun g h i a j b l c d=>v α a b c d (fun e=>jz (K .normal) g h i a j b l c d e) (fun e=>jz (K (.exit 0)) g h i a j b l c d e)
theorem Tz:∀ (α:Type) (K:KT α),sK lz α K=fL.unc fun σ=>aF Pg Ek2 bw S7 K σ:=bM (fun α K=>by kernel_rfl)
def pF:ag:=ag.sub [1,1,1,1,1,1,1,1,1,1,1,1,1,1,0,0,0] (ag.put (.m [⟨fL,sK lz⟩]) [1,1,1,1,1,1,1,1,1,1,1,1,1,1,0,0,0] (emb qM))
def sB (α:Type)(b d e c a:Int)(kn:Int->Int->Op α)(k1:Int->Int->Bool->Op α)(k2:Int->Int->Bool->Op α):Op α:=
 lz α d e c a
 (fun h=>cK (decide (4294967296<=(IntKind.wrap .u64 (a+b))))
 (k1 (IntKind.wrap .u64 (c - 1)) (IntKind.wrap .u64 (a+b)) (decide (4294967296<=(IntKind.wrap .u64 (a+b)))))
 (kn (IntKind.wrap .u64 (c - 1)) (IntKind.wrap .u64 (a+b))))
 (fun g=>k2 c a g)
def lU (α:Type)(a b c:Int)(k1:Int->Int->Bool->Op α)(k2:Int->Int->Bool->Op α):Nat->Int->Int->Op α
 | 0,_,_=>none
 | n+1,d,e=>sB α a b c d e (lU α a b c k1 k2 n) k1 k2
def Dq (α:Type)(a b c:Int)(k1:Int->Int->Bool->Op α)(k2:Int->Int->Bool->Op α)(d e:Int):Op α:=lU α a b c k1 k2 aN d e
def oE:qj:=sld Dq
def zw (v:qj)(α:Type)(K:KT α):I9 (Op α):=fun h i a b j c l m o=>v α a b c (fun d e g=>oP (K (.exit 0)) h i a b j c l d e g) (fun d e g=>jz (K (.exit 0)) h i a b j c l d e g) m o
theorem Y4 (α:Type)(K:KT α)(Kn:SK α)(d e a b g c h i j:Int):zh (fun σ=>aF Pg Ek2 bw pF (di (fun σ=>bR oQ σ Kn) K) σ) d e a b g c h i j=sB α a b c i j (fun i j=>zh Kn d e a b g c h i j) (fun l m o=>oP (K (.exit 0)) d e a b g c h l m o) (fun l m o=>jz (K (.exit 0)) d e a b g c h l m o):=by kernel_rfl
theorem U1 (α:Type)(K:KT α):∀ (n:Nat) (d e a b g c h i j:Int),lU α a b c (fun l m o=>oP (K (.exit 0)) d e a b g c h l m o) (fun l m o=>jz (K (.exit 0)) d e a b g c h l m o) n i j=zh (aS (aF Pg Ek2 bw pF) oQ K n) d e a b g c h i j:=by
 intro n
 induction n with
 | zero=>intros;rfl
 | succ n ih=>intro d e a b g c h i j;exact (congrArg (fun kn=>sB α a b c i j kn (fun l m o=>oP (K (.exit 0)) d e a b g c h l m o) (fun l m o=>jz (K (.exit 0)) d e a b g c h l m o)) (funext fun i=>funext fun j=>ih d e a b g c h i j)).trans (Y4 α K (aS (aF Pg Ek2 bw pF) oQ K n) d e a b g c h i j).symm
theorem Xm:∀ (α:Type) (K:KT α),zw oE α K=fL.unc fun σ=>aS (aF Pg Ek2 bw pF) oQ K aN σ:=bM (fun α K=>funext fun a=>funext fun b=>funext fun c=>funext fun d=>funext fun e=>funext fun g=>funext fun h=>funext fun i=>funext fun j=>U1 α K aN a b c d e g h i j)
def RP:ag:=ag.sub [1,1,1,1,1,1,1,1,1,1,1,1,1,1,0] (ag.put (.m [⟨fL,zw oE⟩]) [1,1,1,1,1,1,1,1,1,1,1,1,1,1,0,0] (ag.put (.m [⟨fL,sK lz⟩]) [1,1,1,1,1,1,1,1,1,1,1,1,1,1,0,0,0] (emb qM)))
def CL (α:Type)(a b c d e:Int)(k1:Int->Int->Bool->Op α)(k2:Int->Int->Bool->Op α):Op α:=
 oE α a b c
 (fun g h i=>k1 g h i)
 (fun j l m=>k2 j l m) d e
def ni:pL:=sld CL
def Hy (v:pL)(α:Type)(K:KT α):I9 (Op α):=fun h i a b j c l m o=>v α a b c m o (fun d e g=>oP (K .normal) h i a b j c l d e g) (fun d e g=>jz (K .normal) h i a b j c l d e g)
theorem Yc:∀ (α:Type) (K:KT α),Hy ni α K=fL.unc fun σ=>aF Pg Ek2 bw RP K σ:=bM (fun α K=>by kernel_rfl)
def PO (α:Type)(d c b:Int)(k1:Int->Int->Op α):Op α:=
 cK (b == 0)
 (none)
 (cK (decide (b<=d))
 (none)
 (cK (d == 0)
 (gK (b != 0) (gK (b != 0) (k1 (IntKind.wrap .u64 (Int.tdiv c b)) (Int.tmod c b))))
 (ze α b
 (fun a=>gK (decide (0<=(IntKind.wrap .u64 (a)))) (gK (decide (0<=(IntKind.wrap .u64 (a)))) (gK (decide (0<=(IntKind.wrap .u64 (64 - (IntKind.wrap .u64 (a)))))) (gK (decide (0<=(IntKind.wrap .u64 (a)))) (gK ((Int.fdiv (IntKind.wrap .u64 (b*2 ^ (min (Int.toNat (IntKind.wrap .u64 (a))) 64))) (2 ^ 32)) != 0) (ni α (Int.fdiv (IntKind.wrap .u64 (b*2 ^ (min (Int.toNat (IntKind.wrap .u64 (a))) 64))) (2 ^ 32)) (ml .u64 (IntKind.wrap .u64 (b*2 ^ (min (Int.toNat (IntKind.wrap .u64 (a))) 64))) 4294967295) (Int.fdiv (IntKind.wrap .u64 (c*2 ^ (min (Int.toNat (IntKind.wrap .u64 (a))) 64))) (2 ^ 32)) (IntKind.wrap .u64 (Int.tdiv (iOr .u64 (IntKind.wrap .u64 (d*2 ^ (min (Int.toNat (IntKind.wrap .u64 (a))) 64))) (Int.fdiv c (2 ^ (min (Int.toNat (IntKind.wrap .u64 (64 - (IntKind.wrap .u64 (a))))) 64)))) (Int.fdiv (IntKind.wrap .u64 (b*2 ^ (min (Int.toNat (IntKind.wrap .u64 (a))) 64))) (2 ^ 32)))) (IntKind.wrap .u64 ((iOr .u64 (IntKind.wrap .u64 (d*2 ^ (min (Int.toNat (IntKind.wrap .u64 (a))) 64))) (Int.fdiv c (2 ^ (min (Int.toNat (IntKind.wrap .u64 (64 - (IntKind.wrap .u64 (a))))) 64)))) - (IntKind.wrap .u64 ((IntKind.wrap .u64 (Int.tdiv (iOr .u64 (IntKind.wrap .u64 (d*2 ^ (min (Int.toNat (IntKind.wrap .u64 (a))) 64))) (Int.fdiv c (2 ^ (min (Int.toNat (IntKind.wrap .u64 (64 - (IntKind.wrap .u64 (a))))) 64)))) (Int.fdiv (IntKind.wrap .u64 (b*2 ^ (min (Int.toNat (IntKind.wrap .u64 (a))) 64))) (2 ^ 32))))*(Int.fdiv (IntKind.wrap .u64 (b*2 ^ (min (Int.toNat (IntKind.wrap .u64 (a))) 64))) (2 ^ 32))))))
 (fun e m o=>gK ((Int.fdiv (IntKind.wrap .u64 (b*2 ^ (min (Int.toNat (IntKind.wrap .u64 (a))) 64))) (2 ^ 32)) != 0) (jo α (Int.fdiv (IntKind.wrap .u64 (b*2 ^ (min (Int.toNat (IntKind.wrap .u64 (a))) 64))) (2 ^ 32)) (ml .u64 (IntKind.wrap .u64 (b*2 ^ (min (Int.toNat (IntKind.wrap .u64 (a))) 64))) 4294967295) (ml .u64 (IntKind.wrap .u64 (c*2 ^ (min (Int.toNat (IntKind.wrap .u64 (a))) 64))) 4294967295) (IntKind.wrap .u64 ((IntKind.wrap .u64 ((IntKind.wrap .u64 ((IntKind.wrap .u64 ((iOr .u64 (IntKind.wrap .u64 (d*2 ^ (min (Int.toNat (IntKind.wrap .u64 (a))) 64))) (Int.fdiv c (2 ^ (min (Int.toNat (IntKind.wrap .u64 (64 - (IntKind.wrap .u64 (a))))) 64))))*4294967296))+(Int.fdiv (IntKind.wrap .u64 (c*2 ^ (min (Int.toNat (IntKind.wrap .u64 (a))) 64))) (2 ^ 32)))) - (IntKind.wrap .u64 (e*(IntKind.wrap .u64 (b*2 ^ (min (Int.toNat (IntKind.wrap .u64 (a))) 64))))))) - (IntKind.wrap .u64 ((IntKind.wrap .u64 (Int.tdiv (IntKind.wrap .u64 ((IntKind.wrap .u64 ((IntKind.wrap .u64 ((iOr .u64 (IntKind.wrap .u64 (d*2 ^ (min (Int.toNat (IntKind.wrap .u64 (a))) 64))) (Int.fdiv c (2 ^ (min (Int.toNat (IntKind.wrap .u64 (64 - (IntKind.wrap .u64 (a))))) 64))))*4294967296))+(Int.fdiv (IntKind.wrap .u64 (c*2 ^ (min (Int.toNat (IntKind.wrap .u64 (a))) 64))) (2 ^ 32)))) - (IntKind.wrap .u64 (e*(IntKind.wrap .u64 (b*2 ^ (min (Int.toNat (IntKind.wrap .u64 (a))) 64))))))) (Int.fdiv (IntKind.wrap .u64 (b*2 ^ (min (Int.toNat (IntKind.wrap .u64 (a))) 64))) (2 ^ 32))))*(Int.fdiv (IntKind.wrap .u64 (b*2 ^ (min (Int.toNat (IntKind.wrap .u64 (a))) 64))) (2 ^ 32)))))) (IntKind.wrap .u64 (Int.tdiv (IntKind.wrap .u64 ((IntKind.wrap .u64 ((IntKind.wrap .u64 ((iOr .u64 (IntKind.wrap .u64 (d*2 ^ (min (Int.toNat (IntKind.wrap .u64 (a))) 64))) (Int.fdiv c (2 ^ (min (Int.toNat (IntKind.wrap .u64 (64 - (IntKind.wrap .u64 (a))))) 64))))*4294967296))+(Int.fdiv (IntKind.wrap .u64 (c*2 ^ (min (Int.toNat (IntKind.wrap .u64 (a))) 64))) (2 ^ 32)))) - (IntKind.wrap .u64 (e*(IntKind.wrap .u64 (b*2 ^ (min (Int.toNat (IntKind.wrap .u64 (a))) 64))))))) (Int.fdiv (IntKind.wrap .u64 (b*2 ^ (min (Int.toNat (IntKind.wrap .u64 (a))) 64))) (2 ^ 32))))
 (fun p h q=>gK (decide (0<=(IntKind.wrap .u64 (a)))) (k1 (IntKind.wrap .u64 ((IntKind.wrap .u64 (e*4294967296))+h)) (Int.fdiv (IntKind.wrap .u64 ((IntKind.wrap .u64 ((IntKind.wrap .u64 ((IntKind.wrap .u64 ((IntKind.wrap .u64 ((IntKind.wrap .u64 ((iOr .u64 (IntKind.wrap .u64 (d*2 ^ (min (Int.toNat (IntKind.wrap .u64 (a))) 64))) (Int.fdiv c (2 ^ (min (Int.toNat (IntKind.wrap .u64 (64 - (IntKind.wrap .u64 (a))))) 64))))*4294967296))+(Int.fdiv (IntKind.wrap .u64 (c*2 ^ (min (Int.toNat (IntKind.wrap .u64 (a))) 64))) (2 ^ 32)))) - (IntKind.wrap .u64 (e*(IntKind.wrap .u64 (b*2 ^ (min (Int.toNat (IntKind.wrap .u64 (a))) 64)))))))*4294967296))+(ml .u64 (IntKind.wrap .u64 (c*2 ^ (min (Int.toNat (IntKind.wrap .u64 (a))) 64))) 4294967295))) - (IntKind.wrap .u64 (h*(IntKind.wrap .u64 (b*2 ^ (min (Int.toNat (IntKind.wrap .u64 (a))) 64))))))) (2 ^ (min (Int.toNat (IntKind.wrap .u64 (a))) 64)))))
 (fun r i s=>gK (decide (0<=(IntKind.wrap .u64 (a)))) (k1 (IntKind.wrap .u64 ((IntKind.wrap .u64 (e*4294967296))+i)) (Int.fdiv (IntKind.wrap .u64 ((IntKind.wrap .u64 ((IntKind.wrap .u64 ((IntKind.wrap .u64 ((IntKind.wrap .u64 ((IntKind.wrap .u64 ((iOr .u64 (IntKind.wrap .u64 (d*2 ^ (min (Int.toNat (IntKind.wrap .u64 (a))) 64))) (Int.fdiv c (2 ^ (min (Int.toNat (IntKind.wrap .u64 (64 - (IntKind.wrap .u64 (a))))) 64))))*4294967296))+(Int.fdiv (IntKind.wrap .u64 (c*2 ^ (min (Int.toNat (IntKind.wrap .u64 (a))) 64))) (2 ^ 32)))) - (IntKind.wrap .u64 (e*(IntKind.wrap .u64 (b*2 ^ (min (Int.toNat (IntKind.wrap .u64 (a))) 64)))))))*4294967296))+(ml .u64 (IntKind.wrap .u64 (c*2 ^ (min (Int.toNat (IntKind.wrap .u64 (a))) 64))) 4294967295))) - (IntKind.wrap .u64 (i*(IntKind.wrap .u64 (b*2 ^ (min (Int.toNat (IntKind.wrap .u64 (a))) 64))))))) (2 ^ (min (Int.toNat (IntKind.wrap .u64 (a))) 64)))))))
 (fun g t w=>gK ((Int.fdiv (IntKind.wrap .u64 (b*2 ^ (min (Int.toNat (IntKind.wrap .u64 (a))) 64))) (2 ^ 32)) != 0) (jo α (Int.fdiv (IntKind.wrap .u64 (b*2 ^ (min (Int.toNat (IntKind.wrap .u64 (a))) 64))) (2 ^ 32)) (ml .u64 (IntKind.wrap .u64 (b*2 ^ (min (Int.toNat (IntKind.wrap .u64 (a))) 64))) 4294967295) (ml .u64 (IntKind.wrap .u64 (c*2 ^ (min (Int.toNat (IntKind.wrap .u64 (a))) 64))) 4294967295) (IntKind.wrap .u64 ((IntKind.wrap .u64 ((IntKind.wrap .u64 ((IntKind.wrap .u64 ((iOr .u64 (IntKind.wrap .u64 (d*2 ^ (min (Int.toNat (IntKind.wrap .u64 (a))) 64))) (Int.fdiv c (2 ^ (min (Int.toNat (IntKind.wrap .u64 (64 - (IntKind.wrap .u64 (a))))) 64))))*4294967296))+(Int.fdiv (IntKind.wrap .u64 (c*2 ^ (min (Int.toNat (IntKind.wrap .u64 (a))) 64))) (2 ^ 32)))) - (IntKind.wrap .u64 (g*(IntKind.wrap .u64 (b*2 ^ (min (Int.toNat (IntKind.wrap .u64 (a))) 64))))))) - (IntKind.wrap .u64 ((IntKind.wrap .u64 (Int.tdiv (IntKind.wrap .u64 ((IntKind.wrap .u64 ((IntKind.wrap .u64 ((iOr .u64 (IntKind.wrap .u64 (d*2 ^ (min (Int.toNat (IntKind.wrap .u64 (a))) 64))) (Int.fdiv c (2 ^ (min (Int.toNat (IntKind.wrap .u64 (64 - (IntKind.wrap .u64 (a))))) 64))))*4294967296))+(Int.fdiv (IntKind.wrap .u64 (c*2 ^ (min (Int.toNat (IntKind.wrap .u64 (a))) 64))) (2 ^ 32)))) - (IntKind.wrap .u64 (g*(IntKind.wrap .u64 (b*2 ^ (min (Int.toNat (IntKind.wrap .u64 (a))) 64))))))) (Int.fdiv (IntKind.wrap .u64 (b*2 ^ (min (Int.toNat (IntKind.wrap .u64 (a))) 64))) (2 ^ 32))))*(Int.fdiv (IntKind.wrap .u64 (b*2 ^ (min (Int.toNat (IntKind.wrap .u64 (a))) 64))) (2 ^ 32)))))) (IntKind.wrap .u64 (Int.tdiv (IntKind.wrap .u64 ((IntKind.wrap .u64 ((IntKind.wrap .u64 ((iOr .u64 (IntKind.wrap .u64 (d*2 ^ (min (Int.toNat (IntKind.wrap .u64 (a))) 64))) (Int.fdiv c (2 ^ (min (Int.toNat (IntKind.wrap .u64 (64 - (IntKind.wrap .u64 (a))))) 64))))*4294967296))+(Int.fdiv (IntKind.wrap .u64 (c*2 ^ (min (Int.toNat (IntKind.wrap .u64 (a))) 64))) (2 ^ 32)))) - (IntKind.wrap .u64 (g*(IntKind.wrap .u64 (b*2 ^ (min (Int.toNat (IntKind.wrap .u64 (a))) 64))))))) (Int.fdiv (IntKind.wrap .u64 (b*2 ^ (min (Int.toNat (IntKind.wrap .u64 (a))) 64))) (2 ^ 32))))
 (fun z j A=>gK (decide (0<=(IntKind.wrap .u64 (a)))) (k1 (IntKind.wrap .u64 ((IntKind.wrap .u64 (g*4294967296))+j)) (Int.fdiv (IntKind.wrap .u64 ((IntKind.wrap .u64 ((IntKind.wrap .u64 ((IntKind.wrap .u64 ((IntKind.wrap .u64 ((IntKind.wrap .u64 ((iOr .u64 (IntKind.wrap .u64 (d*2 ^ (min (Int.toNat (IntKind.wrap .u64 (a))) 64))) (Int.fdiv c (2 ^ (min (Int.toNat (IntKind.wrap .u64 (64 - (IntKind.wrap .u64 (a))))) 64))))*4294967296))+(Int.fdiv (IntKind.wrap .u64 (c*2 ^ (min (Int.toNat (IntKind.wrap .u64 (a))) 64))) (2 ^ 32)))) - (IntKind.wrap .u64 (g*(IntKind.wrap .u64 (b*2 ^ (min (Int.toNat (IntKind.wrap .u64 (a))) 64)))))))*4294967296))+(ml .u64 (IntKind.wrap .u64 (c*2 ^ (min (Int.toNat (IntKind.wrap .u64 (a))) 64))) 4294967295))) - (IntKind.wrap .u64 (j*(IntKind.wrap .u64 (b*2 ^ (min (Int.toNat (IntKind.wrap .u64 (a))) 64))))))) (2 ^ (min (Int.toNat (IntKind.wrap .u64 (a))) 64)))))
 (fun B l C=>gK (decide (0<=(IntKind.wrap .u64 (a)))) (k1 (IntKind.wrap .u64 ((IntKind.wrap .u64 (g*4294967296))+l)) (Int.fdiv (IntKind.wrap .u64 ((IntKind.wrap .u64 ((IntKind.wrap .u64 ((IntKind.wrap .u64 ((IntKind.wrap .u64 ((IntKind.wrap .u64 ((iOr .u64 (IntKind.wrap .u64 (d*2 ^ (min (Int.toNat (IntKind.wrap .u64 (a))) 64))) (Int.fdiv c (2 ^ (min (Int.toNat (IntKind.wrap .u64 (64 - (IntKind.wrap .u64 (a))))) 64))))*4294967296))+(Int.fdiv (IntKind.wrap .u64 (c*2 ^ (min (Int.toNat (IntKind.wrap .u64 (a))) 64))) (2 ^ 32)))) - (IntKind.wrap .u64 (g*(IntKind.wrap .u64 (b*2 ^ (min (Int.toNat (IntKind.wrap .u64 (a))) 64)))))))*4294967296))+(ml .u64 (IntKind.wrap .u64 (c*2 ^ (min (Int.toNat (IntKind.wrap .u64 (a))) 64))) 4294967295))) - (IntKind.wrap .u64 (l*(IntKind.wrap .u64 (b*2 ^ (min (Int.toNat (IntKind.wrap .u64 (a))) 64))))))) (2 ^ (min (Int.toNat (IntKind.wrap .u64 (a))) 64))))))))))))))))
def u7:pp:=sld PO
def Mi:PT (List DV):=pA [pV false [(dI .u64)],pV false [(dI .u64)],pV false [(dI .u64)]]
def L0 (v:pp)(α:Type)(k:RT α):Int->Int->Int->Op α:=fun a b c=>v α a b c (fun d e=>D1 k d e)
def aeT:ag:=(ag.put (.m [⟨fL,Hy ni⟩]) [1,1,1,1,1,1,1,1,1,1,1,1,1,1] (ag.put (.m [⟨fL,zw oE⟩]) [1,1,1,1,1,1,1,1,1,1,1,1,1,1,0,0] (ag.put (.m [⟨fL,sK lz⟩]) [1,1,1,1,1,1,1,1,1,1,1,1,1,1,0,0,0] (ag.put (.m [⟨fJ,IJ jo⟩]) [1,1,1,1,1,1,1,1,1,1,1,1,1,1,1,1,1,1] (ag.put (.m [⟨fJ,AG ox⟩]) [1,1,1,1,1,1,1,1,1,1,1,1,1,1,1,1,1,1,0,0] (ag.put (.m [⟨fJ,sR lw⟩]) [1,1,1,1,1,1,1,1,1,1,1,1,1,1,1,1,1,1,0,0,0] (emb qM)))))))
theorem acG:al Pg 185 135 ⟨Mi,L0 u7⟩:=iZ ek2 (ah Tryz.func185 (by kernel_rfl)) bw aeT ((aw _ _).trans ((aw _ _).trans ((aw _ _).trans ((aw _ _).trans ((aw _ _).trans ((aw _ _).trans (aG _))))))) (aY (by kernel_rfl) (bJ (td:=oQ) (by kernel_rfl) (aY (by kernel_rfl) (aY (by kernel_rfl) (bJ (td:=nR) (by kernel_rfl) (aY (by kernel_rfl) (aM qM) ⟨aa6,TT⟩) ⟨Uk,TT⟩) ⟨Wf,TT⟩) ⟨Tz,TT⟩) ⟨Xm,TT⟩) ⟨Yc,TT⟩) fun _ _=>by kernel_rfl
def ahp:SG:=[(3,iS 2)]
def ark:TG:=[tT 0 [1],tT 1 [2]]
def amE:au:=aD Pg Tryz.f139 ark aX
def PF (α:Type)(a b:Int)(k1:Int->Op α):Op α:=
 jw α a b
 (fun c=>eM α c
 (fun d=>k1 d))
def nZ:dz:=sld PF
def QT (v:dz)(α:Type)(k:RT α):Int->Int->Op α:=fun a b=>v α a b (fun c=>bv k c)
theorem afR:al Pg 139 6 ⟨bB,QT nZ⟩:=iP ek2 amE (ah Tryz.func139 (by kernel_rfl)) ahp fun _ _=>by kernel_rfl
def am5:TG:=[tT 0 [0],tT 1 [0,3],tT 2 [3,10],tT 3 [3],tT 4 [2]]
def aqn:au:=aD Pg Tryz.f144 am5 aX
def Gq (α:Type)(b:Int)(k1:Int->Op α):Op α:=
 eM α b
 (fun a=>cK (decide ((w64 (a*a)) < b))
 (k1 (w64 (a+1)))
 (k1 a))
def nh:dw:=sld Gq
def Qo (v:dw)(α:Type)(k:RT α):Int->Op α:=fun a=>v α a (fun b=>bv k b)
theorem acm:al Pg 144 14 ⟨bC,Qo nh⟩:=iP ek2 aqn (ah Tryz.func144 (by kernel_rfl)) bw fun _ _=>by kernel_rfl
def amH:SG:=[(5,iT),(8,iS 3),(10,iS 2),(11,iT),(17,iT)]
def amW:TG:=[tT 0 [1,2,3],tT 1 [1,2,3,7],tT 2 [3,4],tT 3 [3,4]]
def aon:au:=aD Pg Tryz.f180 amW aX
abbrev Ld:Type 1:=(α:Type)->Int->Int->Int->(Int->Int->Int->Op α)->Op α
def OK (α:Type)(a b c:Int)(k1:Int->Int->Int->Op α):Op α:=
 jy α c 1000000000
 (fun d=>cK (!d)
 (k1 a b 2)
 (jg α a b (Int.tmod (w64 ((Int.tmod c 4)+4)) 4)
 (fun e g=>k1 e g 0)))
def FW:Ld:=sld OK
def QQ:PT (List DV):=pA [pV true [(dI .i64),(dI .i64),(dI .i64)],pV false [(dP [(dI .i64)] 0)]]
def Qq (v:Ld)(α:Type)(k:RT α):I4 (Op α):=fun a b c d=>v α a b d (fun e g h=>eo k e g c h)
theorem agH:al Pg 180 19 ⟨QQ,Qq FW⟩:=iP ek2 aon (ah Tryz.func180 (by kernel_rfl)) amH fun _ _=>by kernel_rfl
def aoS:TG:=[tT 0 [0],tT 1 [2]]
def ap4:au:=aD Pg Tryz.f186 aoS aX
abbrev NW:Type 1:=(α:Type)->Nat->(Bool->Op α)->Op α
def QP (α:Type)(a:Nat)(k1:Bool->Op α):Op α:=
 FH α a
 (k1 false)
 (fun b=>cK ((FloatKind.format .f64).order b a == some Ordering.eq)
 (E1 α a 0
 (fun c=>k1 (!c)))
 (k1 false))
def Af:NW:=sld QP
def QX (v:NW)(α:Type)(k:RT α):Nat->Op α:=fun a=>v α a (fun b=>bG k b)
theorem ag2:al Pg 186 12 ⟨kw,QX Af⟩:=iP ek2 ap4 (ah Tryz.func186 (by kernel_rfl)) bw fun _ _=>by kernel_rfl
def aiC:SG:=[(6,iT),(12,iT),(18,iT),(24,iS 2),(27,iT)]
def aqP:TG:=[tT 0 [1,2],tT 1 [1,2,21],tT 2 [2,3],tT 3 [2,3]]
def YS:au:=aD Pg Tryz.f182 aqP aX
def B5:PT St:=pS [sP 1,sP 2] [aB 1 (xs 3),aB 2 [(cD (dX .f64)),xI]]
def ari {β:Type}(g:St->β):Int->Int->Int->Nat->Nat->Int->β:=B5.unc g
def aaG:PT St:=pS [sP 1,sP 2,sY 21 dB] [aB 1 (xs 3),aB 2 [(cD (dX .f64)),xI]]
def Zy {β:Type}(g:St->β):Bool->Int->Int->Int->Nat->Nat->Int->β:=aaG.unc g
def SF:PT (List RV):=pRs [pR true [rD (dX .f64),rD (dI .i64)],wI]
def bt {β:Type}(g:List RV->β):Nat->Nat->Int->Int->β:=SF.unc g
def VL:ag:=ag.sub [1,0,0] (emb YS)
def DB (α:Type)(a b c:Int)(k1:Bool->Op α):Op α:=
 jy α a 67108864
 (fun d=>cK (!d)
 (k1 true)
 (jy α b 67108864
 (fun e=>cK (!e)
 (k1 true)
 (kM α c 0 67108864
 (fun g=>k1 (!g))))))
def tO:cW:=sld DB
def HX (v:cW)(α:Type)(K:KT α):Int->Int->Int->Nat->Nat->Int->Op α:=fun a b c d e g=>v α a b c (fun h=>Zy (K .normal) h a b c d e g)
theorem TM:∀ (α:Type) (K:KT α),HX tO α K=B5.unc fun σ=>aF Pg Ek2 aiC VL K σ:=bM (fun α K=>by kernel_rfl)
abbrev pv:Type 1:=(α:Type)->Int->Int->Int->(Nat->Nat->Int->Int->Op α)->Op α
def Mj (α:Type)(a b c:Int)(k1:Nat->Nat->Int->Int->Op α):Op α:=
 tO α a b c
 (fun d=>cK d
 (k1 0 0 0 8)
 (FL α a b
 (fun e g=>k1 e g c 0)))
def f9:pv:=sld Mj
def pU:PT (List DV):=pA [pV true [(dI .i64),(dI .i64),(dI .i64)]]
def Lt (v:pv)(α:Type)(k:RT α):Int->Int->Int->Op α:=fun a b c=>v α a b c (fun d e g h=>bt k d e g h)
def aho:ag:=(ag.put (.m [⟨B5,HX tO⟩]) [1,0] (emb YS))
theorem ahh:al Pg 182 29 ⟨pU,Lt f9⟩:=iZ ek2 (ah Tryz.func182 (by kernel_rfl)) aiC aho ((aw _ _).trans (aG _)) (aY (by kernel_rfl) (aM YS) ⟨TM,TT⟩) fun _ _=>by kernel_rfl
def O0:SG:=[(8,iT),(14,iT),(20,iT),(22,iT)]
def aoI:TG:=[tT 0 [1,2],tT 1 [2,5],tT 2 [4],tT 3 [18],tT 4 [4],tT 5 [4]]
def Ed:au:=aD Pg Tryz.f115 aoI aX
def Aq:PT St:=pS [sY 1 (dFn 116 []),sP 2] [aB 2 [xI,xI]]
def an5 {β:Type}(g:St->β):Int->Int->β:=Aq.unc g
def XP:ag:=ag.sub [1,0,0,0] (emb Ed)
def CP (α:Type)(a b:Int)(k1:Bool->Op α):Op α:=
 zU α a
 (fun c=>cK (!c)
 (k1 true)
 (zU α b
 (fun d=>k1 (!d))))
def uL:bS:=sld CP
def Hn (v:bS)(α:Type)(K:KT α):Int->Int->Op α:=fun a b=>v α a b (fun c=>BM (K .normal) c a b)
theorem V0:∀ (α:Type) (K:KT α),Hn uL α K=Aq.unc fun σ=>aF Pg Ek2 O0 XP K σ:=bM (fun α K=>by kernel_rfl)
def PI (α:Type)(a b:Int)(k1:Int->Op α):Op α:=
 uL α a b
 (fun c=>cK c
 (k1 2)
 (cK (decide (b < a))
 (k1 10)
 (k1 0)))
def AB:dz:=sld PI
def Od:PT (List DV):=pA [pV true [(dI .i64),(dI .i64)],pV false [(dFn 116 [])]]
def Ol (v:dz)(α:Type)(k:RT α):Int->Int->Op α:=fun a b=>v α a b (fun c=>bv k c)
def afo:ag:=(ag.put (.m [⟨Aq,Hn uL⟩]) [1,0,0] (emb Ed))
theorem aeh:al Pg 115 24 ⟨Od,Ol AB⟩:=iZ ek2 (ah Tryz.func115 (by kernel_rfl)) O0 afo ((aw _ _).trans (aG _)) (aY (by kernel_rfl) (aM Ed) ⟨V0,TT⟩) fun _ _=>by kernel_rfl
def AA:PT St:=pS [sY 1 (dFn 117 []),sP 2] [aB 2 [xI,xI]]
def arf {β:Type}(g:St->β):Int->Int->β:=AA.unc g
def WG:ag:=ag.sub [1,0,0,0] (emb Ed)
def CU (α:Type)(a b:Int)(k1:Bool->Op α):Op α:=
 B7 α a
 (fun c=>cK (!c)
 (k1 true)
 (B7 α b
 (fun d=>k1 (!d))))
def uO:bS:=sld CU
def H7 (v:bS)(α:Type)(K:KT α):Int->Int->Op α:=fun a b=>v α a b (fun c=>BM (K .normal) c a b)
theorem XQ:∀ (α:Type) (K:KT α),H7 uO α K=AA.unc fun σ=>aF Pg Ek2 O0 WG K σ:=bM (fun α K=>by kernel_rfl)
def PW (α:Type)(a b:Int)(k1:Int->Op α):Op α:=
 uO α a b
 (fun c=>cK c
 (k1 2)
 (cK (decide (b < a))
 (k1 10)
 (k1 0)))
def BH:dz:=sld PW
def Nv:PT (List DV):=pA [pV true [(dI .i64),(dI .i64)],pV false [(dFn 117 [])]]
def Na (v:dz)(α:Type)(k:RT α):Int->Int->Op α:=fun a b=>v α a b (fun c=>bv k c)
def af5:ag:=(ag.put (.m [⟨AA,H7 uO⟩]) [1,0,0] (emb Ed))
theorem aeX:al Pg 115 24 ⟨Nv,Na BH⟩:=iZ ek2 (ah Tryz.func115 (by kernel_rfl)) O0 af5 ((aw _ _).trans (aG _)) (aY (by kernel_rfl) (aM Ed) ⟨XQ,TT⟩) fun _ _=>by kernel_rfl
def Xe:SG:=[(4,iS 9),(9,iT),(14,iS 2),(21,iT),(24,iT),(28,iS 2),(34,iT),(37,iT),(41,iT),(46,iT),(52,iT),(54,iT)]
def anS:TG:=[tT 0 [1],tT 1 [1,3],tT 2 [2],tT 3 [1,7],tT 4 [2],tT 5 [1,18],tT 6 [2],tT 7 [1,26],tT 8 [2],tT 9 [1,31],tT 10 [2],tT 11 [1,39],tT 12 [2],tT 13 [50],tT 14 [2],tT 15 [2]]
def Mf:au:=aD Pg Tryz.f114 anS aX
def zs:PT St:=pS [sP 1,sY 3 dB] [aB 1 (xs 9)]
def aqL {β:Type}(g:St->β):Bool->I9 β:=zs.unc g
def Ym:PT St:=pS [sP 1,sY 7 dB] [aB 1 (xs 9)]
def abe {β:Type}(g:St->β):Bool->I9 β:=Ym.unc g
def Al:PT St:=pS [sP 1,sY 31 dB] [aB 1 (xs 9)]
def anP {β:Type}(g:St->β):Bool->I9 β:=Al.unc g
def YL:PT St:=pS [sP 1,sY 39 dB] [aB 1 (xs 9)]
def aa2 {β:Type}(g:St->β):Bool->I9 β:=YL.unc g
def Sr:ag:=ag.sub [1,0,0,1,1,1,1,1,1,1,1,1,1,0] (emb Mf)
def DA (α:Type)(a b:Int)(k1:Bool->Op α):Op α:=
 oc α a 0 10000
 (fun c=>cK (!c)
 (k1 true)
 (oc α b 0 10000
 (fun d=>k1 (!d))))
def oS:bS:=sld DA
def Js (v:bS)(α:Type)(K:KT α):Bool->I9 (Op α):=fun m c d e g h i j a b=>v α a b (fun l=>aa2 (K .normal) l c d e g h i j a b)
theorem aaQ:∀ (α:Type) (K:KT α),Js oS α K=Al.unc fun σ=>aF Pg Ek2 Xe Sr K σ:=bM (fun α K=>by kernel_rfl)
def Td:ag:=ag.sub [1,0,0,1,1,0] (emb Mf)
def Dh (α:Type)(a b c:Int)(k1:Bool->Op α):Op α:=
 oc α a 5000 80000
 (fun d=>cK (!d)
 (k1 true)
 (vb α b c 0 9999
 (fun e=>k1 (!e))))
def oO:cW:=sld Dh
def Jg (v:cW)(α:Type)(K:KT α):Bool->I9 (Op α):=fun m d e a b c g h i j=>v α a b c (fun l=>abe (K .normal) l d e a b c g h i j)
theorem abs:∀ (α:Type) (K:KT α),Jg oO α K=zs.unc fun σ=>aF Pg Ek2 Xe Td K σ:=bM (fun α K=>by kernel_rfl)
abbrev ND:Type 1:=(α:Type)->Int->Int->Int->Int->Int->Int->Int->Int->Int->(Int->Op α)->Op α
def PV (α:Type)(h i j a b c d e g:Int)(k1:Int->Op α):Op α:=
 zB α h i
 (fun l=>cK (!l)
 (k1 11)
 (oO α j a b
 (fun m=>cK m
 (k1 2)
 (cK (decide (b < a))
 (k1 10)
 (vb α c d 1000 200000
 (fun o=>cK (!o)
 (k1 2)
 (cK (decide (d < c))
 (k1 10)
 (oS α e g
 (fun p=>cK p
 (k1 2)
 (cK (decide (g < e))
 (k1 24)
 (k1 0)))))))))))
def A6:ND:=sld PV
def Qs (v:ND)(α:Type)(k:RT α):I9 (Op α):=fun a b c d e g h i j=>v α a b c d e g h i j (fun l=>bv k l)
def afp:ag:=(ag.put (.m [⟨zs,Jg oO⟩]) [1,0,0,1,1] (ag.put (.m [⟨Al,Js oS⟩]) [1,0,0,1,1,1,1,1,1,1,1,1,1] (emb Mf)))
theorem agU:al Pg 114 56 ⟨wn,Qs A6⟩:=iZ ek2 (ah Tryz.func114 (by kernel_rfl)) Xe afp ((aw _ _).trans ((aw _ _).trans (aG _))) (aY (by kernel_rfl) (aY (by kernel_rfl) (aM Mf) ⟨aaQ,TT⟩) ⟨abs,TT⟩) fun _ _=>by kernel_rfl
def Fp:SG:=[(19,iS 3),(20,iS 3),(22,iT),(27,iT),(33,iT),(45,iS 3),(46,iS 3),(48,iT),(53,iT),(59,iT),(61,iT),(64,iT),(69,iT),(74,iT)]
def asU:TG:=[tT 0 [0,1],tT 1 [0,1,14],(2,⟨[4,5],true,[⟨false,4,0,20004,5⟩],[]⟩),tT 3 [0,1,15,16,17],tT 4 [0,1,15,16,17,18],tT 5 [0,1,7,15,16,17],tT 6 [0,1,15,16,17,36],(7,⟨[4,5],true,[⟨false,4,0,20004,5⟩],[]⟩),tT 8 [0,1,15,16,17],tT 9 [0,1,40],(10,⟨[4,5],true,[⟨false,4,0,20004,5⟩],[]⟩),tT 11 [0,1,8],tT 12 [1,8,41,42,43],tT 13 [1,8,41,42,43,44],tT 14 [1,8,10,41,42,43],tT 15 [1,8,10,11,41,42,43],tT 16 [1,8,10,11,41,42,43,56],(17,⟨[4,5],true,[⟨false,4,0,20004,5⟩],[]⟩),tT 18 [1,8,41,42,43],tT 19 [1,8,41,42,43],(20,⟨[4,5],true,[⟨false,4,0,20004,5⟩],[]⟩)]
def ast:TG:=[(4,⟨[0,1,15,16,17],true,[⟨false,15,0,20015,3⟩],[]⟩),(13,⟨[1,8,41,42,43],true,[⟨false,8,0,20008,5⟩,⟨false,41,0,20041,3⟩],[]⟩)]
def R0:au:=aD Pg Tryz.f59 asU ast
def uw:OT:=tdC (ag.sub [1,1,0,1,0] (emb R0))
def uE:OT:=tdC (ag.sub [1,1,1,1,1,0,1,0] (emb R0))
def EK:PT St:=pS [sY 0 dL,sI 1,sY 15 dL,sI 16,sI 17] []
def Gg {β:Type}(g:St->β):ae->Int->ae->Int->Int->β:=EK.unc g
def adT:PT St:=pS [sl 4 (aV false [(cY 20004)]),sI 5] [cZ 20004 5]
def jR {β:Type}(g:St->β):Int->ae->β:=adT.unc g
def af4:PT St:=pS [sY 0 dL,sI 1,sY 15 dL,sI 16,sI 17,sY 18 dB] []
def yn {β:Type}(g:St->β):ae->Int->ae->Int->Int->Bool->β:=af4.unc g
def FG:PT St:=pS [sI 1,sl 8 (aV false [(cY 20008)]),sY 41 dL,sI 42,sI 43] [cZ 20008 5]
def EU {β:Type}(g:St->β):Int->ae->Int->Int->ae->β:=FG.unc g
def ac2:PT St:=pS [sI 1,sl 8 (aV false [(cY 20008)]),sY 41 dL,sI 42,sI 43,sY 44 dB] [cZ 20008 5]
def yr {β:Type}(g:St->β):Int->ae->Int->Int->Bool->ae->β:=ac2.unc g
def UN:PT (List RV):=pRs [pR false [rO 5],wI]
def G4 {β:Type}(g:List RV->β):ae->Int->β:=UN.unc g
def rV:ag:=ag.sub [1,1,1,1,1,0,1,0,0] (emb R0)
def rE (α:Type)(i:Int)(j:ae)(g c:Int)(e:ae)(kn:Int->ae->Op α)(k1:Op α)(k2:Int->Bool->ae->Op α):Op α:=
 cK (decide (c < g))
 (gq j c [.int .i64,.int .i64,.int .i64]
 (fun d h a=>mT α (w64 (a*i)) 1000
 (fun b=>cK (decide (1000000 < (w64 (a+b))))
 (k1)
 (gK (fj 5 40 e [[DC.v (.int .i64 d),DC.v (.int .i64 d),DC.v (.int .i64 (if (w64 (a - b)) > 0 then (w64 (a - b)) else 0)),DC.v (.int .i64 (w64 (a+b))),DC.v (.int .i64 h)]]) (kn (w64 (c+1)) (e++[[DC.v (.int .i64 d),DC.v (.int .i64 d),DC.v (.int .i64 (if (w64 (a - b)) > 0 then (w64 (a - b)) else 0)),DC.v (.int .i64 (w64 (a+b))),DC.v (.int .i64 h)]]))))))
 (k2 c (decide (c < g)) e)
def mt (α:Type)(a:Int)(b:ae)(c:Int)(k1:Op α)(k2:Int->Bool->ae->Op α):Nat->Int->ae->Op α
 | 0,_,_=>none
 | n+1,d,e=>rE α a b c d e (mt α a b c k1 k2 n) k1 k2
def GU (α:Type)(a:Int)(b:ae)(c:Int)(k1:Op α)(k2:Int->Bool->ae->Op α)(d:Int)(e:ae):Op α:=mt α a b c k1 k2 aN d e
abbrev Ij:Type 1:=(α:Type)->Int->ae->Int->(Op α)->(Int->Bool->ae->Op α)->Int->ae->Op α
def xS:Ij:=sld GU
def Ni (v:Ij)(α:Type)(K:KT α):Int->ae->Int->Int->ae->Op α:=fun a b c d e=>v α a b c (jR (K .ret) 8 ([]:ae)) (fun g h i=>yr (K (.exit 2)) a b c g h i) d e
theorem agm (α:Type)(K:KT α)(Kn:SK α)(a:Int)(b:ae)(c d:Int)(e:ae):EU (fun σ=>aF Pg Ek2 Fp rV (di (fun σ=>bR uE σ Kn) K) σ) a b c d e=rE α a b c d e (fun d e=>EU Kn a b c d e) (jR (K .ret) 8 ([]:ae)) (fun g h i=>yr (K (.exit 2)) a b c g h i):=by kernel_rfl
theorem acW (α:Type)(K:KT α):∀ (n:Nat) (a:Int) (b:ae) (c d:Int) (e:ae),mt α a b c (jR (K .ret) 8 ([]:ae)) (fun g h i=>yr (K (.exit 2)) a b c g h i) n d e=EU (aS (aF Pg Ek2 Fp rV) uE K n) a b c d e:=by
 intro n
 induction n with
 | zero=>intros;rfl
 | succ n ih=>intro a b c d e;exact (congrArg (fun kn=>rE α a b c d e kn (jR (K .ret) 8 ([]:ae)) (fun g h i=>yr (K (.exit 2)) a b c g h i)) (funext fun d=>funext fun e=>ih a b c d e)).trans (agm α K (aS (aF Pg Ek2 Fp rV) uE K n) a b c d e).symm
theorem ag1:∀ (α:Type) (K:KT α),Ni xS α K=FG.unc fun σ=>aS (aF Pg Ek2 Fp rV) uE K aN σ:=bM (fun α K=>funext fun a=>funext fun b=>funext fun c=>funext fun d=>funext fun e=>acW α K aN a b c d e)
def sm:ag:=ag.sub [1,1,0,1,0,0] (emb R0)
def uK (α:Type)(c:ae)(b a:Int)(kn:Int->Op α)(k1:Op α)(k2:Int->Bool->Op α):Op α:=
 cK (decide (a < b))
 (gq c a [.int .i64,.int .i64,.int .i64]
 (fun d e g=>kJ α d
 (fun h=>cK (!h)
 (k1)
 (oL α e
 (fun i=>cK (!i)
 (k1)
 (rm α g
 (fun j=>cK (!j)
 (k1)
 (kn (w64 (a+1))))))))))
 (k2 a (decide (a < b)))
def pg (α:Type)(a:ae)(b:Int)(k1:Op α)(k2:Int->Bool->Op α):Nat->Int->Op α
 | 0,_=>none
 | n+1,c=>uK α a b c (pg α a b k1 k2 n) k1 k2
def Hh (α:Type)(a:ae)(b:Int)(k1:Op α)(k2:Int->Bool->Op α)(c:Int):Op α:=pg α a b k1 k2 aN c
abbrev uG:Type 1:=(α:Type)->ae->Int->(Op α)->(Int->Bool->Op α)->Int->Op α
def yM:uG:=sld Hh
def Qw (v:uG)(α:Type)(K:KT α):ae->Int->ae->Int->Int->Op α:=fun c d a b e=>v α a b (jR (K .ret) 2 ([]:ae)) (fun g h=>yn (K (.exit 0)) c d a b g h) e
theorem abX (α:Type)(K:KT α)(Kn:SK α)(d:ae)(e:Int)(a:ae)(b c:Int):Gg (fun σ=>aF Pg Ek2 Fp sm (di (fun σ=>bR uw σ Kn) K) σ) d e a b c=uK α a b c (fun c=>Gg Kn d e a b c) (jR (K .ret) 2 ([]:ae)) (fun g h=>yn (K (.exit 0)) d e a b g h):=by kernel_rfl
theorem agf (α:Type)(K:KT α):∀ (n:Nat) (d:ae) (e:Int) (a:ae) (b c:Int),pg α a b (jR (K .ret) 2 ([]:ae)) (fun g h=>yn (K (.exit 0)) d e a b g h) n c=Gg (aS (aF Pg Ek2 Fp sm) uw K n) d e a b c:=by
 intro n
 induction n with
 | zero=>intros;rfl
 | succ n ih=>intro d e a b c;exact (congrArg (fun kn=>uK α a b c kn (jR (K .ret) 2 ([]:ae)) (fun g h=>yn (K (.exit 0)) d e a b g h)) (funext fun c=>ih d e a b c)).trans (abX α K (aS (aF Pg Ek2 Fp sm) uw K n) d e a b c).symm
theorem aea:∀ (α:Type) (K:KT α),Qw yM α K=EK.unc fun σ=>aS (aF Pg Ek2 Fp sm) uw K aN σ:=bM (fun α K=>funext fun a=>funext fun b=>funext fun c=>funext fun d=>funext fun e=>agf α K aN a b c d e)
abbrev XV:Type 1:=(α:Type)->ae->Int->(ae->Int->Op α)->Op α
def VA (α:Type)(a:ae)(b:Int)(k1:ae->Int->Op α):Op α:=
 cK (decide (40 < ((List.length a:Nat):Int)))
 (k1 ([]:ae) 8)
 (yM α a ((List.length a:Nat):Int)
 (k1 ([]:ae) 2)
 (fun e g=>jG α b 0 1000
 (fun c=>cK (!c)
 (k1 ([]:ae) 2)
 (xS α b a ((List.length a:Nat):Int)
 (k1 ([]:ae) 8)
 (fun h i d=>k1 d 0) 0 ([]:ae)))) 0)
def Jm:XV:=sld VA
def Ws:PT (List DV):=pA [pV false [dL],vI]
def XJ (v:XV)(α:Type)(k:RT α):ae->Int->Op α:=fun a b=>v α a b (fun c d=>G4 k c d)
def alz:ag:=(ag.put (.m [⟨EK,Qw yM⟩]) [1,1,0,1,0] (ag.put (.m [⟨FG,Ni xS⟩]) [1,1,1,1,1,0,1,0] (emb R0)))
theorem ai7:al Pg 59 80 ⟨Ws,XJ Jm⟩:=iZ ek2 (ah Tryz.func59 (by kernel_rfl)) Fp alz ((aw _ _).trans ((aw _ _).trans (aG _))) (bJ (td:=uw) (by kernel_rfl) (bJ (td:=uE) (by kernel_rfl) (aM R0) ⟨ag1,TT⟩) ⟨aea,TT⟩) fun _ _=>by kernel_rfl
def atK:SG:=[(8,iS 2),(15,iT),(17,iT)]
def atH:TG:=[tT 0 [1,2,3],tT 1 [3,7],tT 2 [6],tT 3 [13],tT 4 [6],tT 5 [6]]
def arB:au:=aD Pg Tryz.f58 atH aX
def V9 (α:Type)(a b c d:Int)(k1:Int->Op α):Op α:=
 Bf α a b c d
 (fun e=>cK (!e)
 (k1 2)
 (cK (decide (b < a))
 (k1 10)
 (k1 0)))
def GZ:xP:=sld V9
def TQ (v:xP)(α:Type)(k:RT α):I4 (Op α):=fun a b c d=>v α a b c d (fun e=>bv k e)
theorem ai1:al Pg 58 19 ⟨pM,TQ GZ⟩:=iP ek2 arB (ah Tryz.func58 (by kernel_rfl)) atK fun _ _=>by kernel_rfl
def aig:SG:=[(6,iS 2),(14,iT),(17,iT),(23,iT),(26,iT),(31,iS 2)]
def ao7:TG:=[tT 0 [1,2],tT 1 [1,2,4],tT 2 [1,2,4,9],tT 3 [2,3],tT 4 [1,2,5],tT 5 [1,2,5,15],tT 6 [1,2,5],tT 7 [1,2,5,24],tT 8 [2,5],tT 9 [2,3]]
def X3:au:=aD Pg Tryz.f165 ao7 aX
def BK:PT St:=pS [sP 1,sP 2,sP 5] [aB 1 [xI,xI],aB 2 [xI,xI],aB 5 [xI,xI]]
def Vj {β:Type}(g:St->β):I6 β:=BK.unc g
def Wg:PT St:=pS [sP 1,sP 2,sP 5,sY 15 dB] [aB 1 [xI,xI],aB 2 [xI,xI],aB 5 [xI,xI]]
def WF {β:Type}(g:St->β):Bool->I6 β:=Wg.unc g
def S2:PT (List RV):=pRs [pR true [rD (dI .i64),rD (dI .i64)],wI]
def qa {β:Type}(g:List RV->β):Int->Int->Int->β:=S2.unc g
noncomputable abbrev Lk3:List bz:=⟨198,40,[⟨bC,QR Ap⟩]⟩::⟨199,32,[⟨bC,Mz wo⟩]⟩::⟨222,24,[⟨kN,Mq Bp⟩]⟩::⟨185,135,[⟨Mi,L0 u7⟩]⟩::⟨144,14,[⟨bC,Qo nh⟩]⟩::⟨186,12,[⟨kw,QX Af⟩]⟩::⟨182,29,[⟨pU,Lt f9⟩]⟩::⟨115,24,[⟨Od,Ol AB⟩,⟨Nv,Na BH⟩]⟩::⟨114,56,[⟨wn,Qs A6⟩]⟩::⟨58,19,[⟨pM,TQ GZ⟩]⟩::⟨59,80,[⟨Ws,XJ Jm⟩]⟩::⟨139,6,[⟨bB,QT nZ⟩]⟩::⟨180,19,[⟨QQ,Qq FW⟩]⟩::⟨122,44,[⟨MY,P7 jt⟩]⟩::Lk2
theorem ak3:bF Lk3 fun c=>bF c.l (al Pg c.f c.nt):=⟨⟨ab3,TT⟩,⟨acg,TT⟩,⟨aeR,TT⟩,⟨acG,TT⟩,⟨acm,TT⟩,⟨ag2,TT⟩,⟨ahh,TT⟩,⟨aeh,aeX,TT⟩,⟨agU,TT⟩,⟨ai1,TT⟩,⟨ai7,TT⟩,⟨afR,TT⟩,⟨agH,TT⟩,⟨afA,TT⟩,ak2⟩
def Ek3:aE:=aE.ofIO Lk3 bD io0
theorem ek3:Ek3.Ok Pg:=aE.ofIO_ok aO ak3
def Th:ag:=ag.sub [1,1,1,0] (emb X3)
def DF (α:Type)(a:Int)(k1:Int->Op α)(k2:Bool->Op α):Op α:=
 cK (decide (a<=16777216))
 (Ap α a
 (fun c=>jq α c 1024
 (fun b=>k1 (if b > 0 then b else 0))))
 (k2 (decide (a<=16777216)))
def uI:oX:=sld DF
def If (v:oX)(α:Type)(K:KT α):I6 (Op α):=fun c a d e h g=>v α a (fun b=>Vj (K .normal) c a d e b g) (fun b=>WF (K .normal) b c a d e h g)
theorem Ya:∀ (α:Type) (K:KT α),If uI α K=BK.unc fun σ=>aF Pg Ek3 aig Th K σ:=bM (fun α K=>by kernel_rfl)
abbrev Re:Type 1:=(α:Type)->Int->Int->(Int->Int->Int->Op α)->Op α
def Rv (α:Type)(a b:Int)(k1:Int->Int->Int->Op α):Op α:=
 v4 α a b 0
 (fun c=>cK (c != 0)
 (k1 0 0 c)
 (uI α b
 (fun d=>cK (decide (a<=16777216))
 (wo α a
 (fun h=>dS α h 1024
 (fun e=>k1 d (if e < 1048576 then e else 1048576) 0)))
 (k1 d 1 0))
 (fun j=>cK (decide (a<=16777216))
 (wo α a
 (fun i=>dS α i 1024
 (fun g=>k1 0 (if g < 1048576 then g else 1048576) 0)))
 (k1 0 1 0))))
def rg:Re:=sld Rv
def QY (v:Re)(α:Type)(k:RT α):Int->Int->Op α:=fun a b=>v α a b (fun c d e=>qa k c d e)
def afT:ag:=(ag.put (.m [⟨BK,If uI⟩]) [1,1,1] (emb X3))
theorem abV:al Pg 165 32 ⟨bB,QY rg⟩:=iZ ek3 (ah Tryz.func165 (by kernel_rfl)) aig afT ((aw _ _).trans (aG _)) (aY (by kernel_rfl) (aM X3) ⟨Ya,TT⟩) fun _ _=>by kernel_rfl
end
end Go.AM.K
