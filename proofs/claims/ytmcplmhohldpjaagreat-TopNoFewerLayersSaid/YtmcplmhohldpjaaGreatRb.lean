/- Printed by KGen. -/
import Derived.Test.YtmcplmhohldpjaaGreatRa
namespace Go.AM.K
open Go.Proofs
set_option maxRecDepth 100000
set_option linter.unusedVariables false
noncomputable section
def aoj:TG:=[tT 0 [0,1],tT 1 [4,5]]
def aqU:au:=aB Pg Tryz.f171 aoj aR
def QV:PT (List RV):=pRs [wI,pR false [rD dB]]
def CV {β:Type}(g:List RV->β):Int->Bool->β:=QV.unc g
abbrev NW:Type 1:=(α:Type)->Int->Int->(Int->Bool->Op α)->Op α
def NJ (α:Type)(b a:Int)(k1:Int->Bool->Op α):Op α:=
 jc α (w64 ((w64 (2*b))+a)) (w64 (2*a))
 (fun c=>gK (a != 0) (k1 c ((Int.tmod b a) != 0)))
def lS:NW:=sld NJ
def Nr (v:NW)(α:Type)(k:RT α):Int->Int->Op α:=fun a b=>v α a b (fun c d=>CV k c d)
theorem aeq:al Pg 171 17 ⟨dr,Nr lS⟩:=iP ek1 aqU (ag Tryz.func171 (by kernel_rfl)) br fun _ _=>by kernel_rfl
def ano:TG:=[tT 0 [0,1],tT 1 [4]]
def aqT:au:=aB Pg Tryz.f140 ano aR
def Nm (α:Type)(b a:Int)(k1:Bool->Op α):Op α:=
 kq α b (w64 (0 - a)) a
 (fun c=>k1 c)
def iV:bN:=sld Nm
def LS (v:bN)(α:Type)(k:RT α):Int->Int->Op α:=fun a b=>v α a b (fun c=>bA k c)
theorem acn:al Pg 140 10 ⟨dr,LS iV⟩:=iP ek1 aqT (ag Tryz.func140 (by kernel_rfl)) br fun _ _=>by kernel_rfl
def aqD:TG:=[tT 0 [0],tT 1 [2]]
def apP:au:=aB Pg Tryz.f108 aqD aR
def E8 (α:Type)(a:Int)(k1:Bool->Op α):Op α:=
 ke α a 0 80000
 (fun b=>k1 b)
def vj:dk:=sld E8
def O7 (v:dk)(α:Type)(k:RT α):Int->Op α:=fun a=>v α a (fun b=>bA k b)
theorem ad6:al Pg 108 5 ⟨bj,O7 vj⟩:=iP ek1 apP (ag Tryz.func108 (by kernel_rfl)) br fun _ _=>by kernel_rfl
def aqM:TG:=[tT 0 [0],tT 1 [2]]
def anM:au:=aB Pg Tryz.f109 aqM aR
def MB (α:Type)(a:Int)(k1:Bool->Op α):Op α:=
 ke α a 0 1000000
 (fun b=>k1 b)
def zt:dk:=sld MB
def Oh (v:dk)(α:Type)(k:RT α):Int->Op α:=fun a=>v α a (fun b=>bA k b)
theorem afy:al Pg 109 5 ⟨bj,Oh zt⟩:=iP ek1 anM (ag Tryz.func109 (by kernel_rfl)) br fun _ _=>by kernel_rfl
def aqh:TG:=[tT 0 [0],tT 1 [2]]
def aqe:au:=aB Pg Tryz.f117 aqh aR
def MD (α:Type)(a:Int)(k1:Bool->Op α):Op α:=
 ke α a 1000 200000
 (fun b=>k1 b)
def zR:dk:=sld MD
def LM (v:dk)(α:Type)(k:RT α):Int->Op α:=fun a=>v α a (fun b=>bA k b)
theorem aen:al Pg 117 5 ⟨bj,LM zR⟩:=iP ek1 aqe (ag Tryz.func117 (by kernel_rfl)) br fun _ _=>by kernel_rfl
def aq5:TG:=[tT 0 [0],tT 1 [2]]
def am2:au:=aB Pg Tryz.f116 aq5 aR
def P7 (α:Type)(a:Int)(k1:Bool->Op α):Op α:=
 ke α a 0 9999
 (fun b=>k1 b)
def yI:dk:=sld P7
def Kr (v:dk)(α:Type)(k:RT α):Int->Op α:=fun a=>v α a (fun b=>bA k b)
theorem afI:al Pg 116 5 ⟨bj,Kr yI⟩:=iP ek1 am2 (ag Tryz.func116 (by kernel_rfl)) br fun _ _=>by kernel_rfl
def arc:TG:=[tT 0 [0],tT 1 [2]]
def apS:au:=aB Pg Tryz.f107 arc aR
def F1 (α:Type)(a:Int)(k1:Bool->Op α):Op α:=
 ke α a 5000 80000
 (fun b=>k1 b)
def nD:dk:=sld F1
def Nl (v:dk)(α:Type)(k:RT α):Int->Op α:=fun a=>v α a (fun b=>bA k b)
theorem adX:al Pg 107 5 ⟨bj,Nl nD⟩:=iP ek1 apS (ag Tryz.func107 (by kernel_rfl)) br fun _ _=>by kernel_rfl
def Yp:SG:=[(8,iT),(14,iT)]
def aoi:TG:=[tT 0 [1,2,3],tT 1 [6]]
def aoH:au:=aB Pg Tryz.f159 aoi aR
abbrev jP:Type 1:=(α:Type)->Int->Int->Int->Int->(Bool->Op α)->Op α
def Pb (α:Type)(c d a b:Int)(k1:Bool->Op α):Op α:=
 lX α c a b
 (fun e=>cK e
 (lX α d a b
 (fun g=>k1 g))
 (k1 false))
def uw:jP:=sld Pb
def ox:PT (List DV):=pA [pV true [(dI .i64),(dI .i64)],vI,vI]
def Mq (v:jP)(α:Type)(k:RT α):I4 (Op α):=fun a b c d=>v α a b c d (fun e=>bA k e)
theorem af9:al Pg 159 19 ⟨ox,Mq uw⟩:=iP ek1 aoH (ag Tryz.func159 (by kernel_rfl)) Yp fun _ _=>by kernel_rfl
def am0:SG:=[(4,iT),(8,iT)]
def apd:TG:=[tT 0 [1],tT 1 [2]]
def anZ:au:=aB Pg Tryz.f158 apd aR
def OY (α:Type)(a b:Int)(k1:Bool->Op α):Op α:=
 lX α a 0 2
 (fun c=>cK c
 (lX α b 0 1
 (fun d=>k1 d))
 (k1 false))
def yU:bN:=sld OY
def Np (v:bN)(α:Type)(k:RT α):I9 (Op α):=fun a b d e g h i j l=>v α a b (fun c=>bA k c)
theorem aeK:al Pg 158 11 ⟨nL,Np yU⟩:=iP ek1 anZ (ag Tryz.func158 (by kernel_rfl)) am0 fun _ _=>by kernel_rfl
def as2:SG:=[(5,[.sl]),(8,[.sl]),(12,[.sl,.sl,.int .i64,.int .i64,.int .i64])]
def as7:TG:=[(0,⟨[1,2],true,[⟨true,2,0,30200,9⟩,⟨true,2,1,30201,5⟩],[]⟩),(1,⟨[1,2],true,[⟨true,2,0,30200,9⟩,⟨true,2,1,30201,5⟩],[]⟩),(2,⟨[2],true,[⟨true,2,0,30200,9⟩,⟨true,2,1,30201,5⟩],[]⟩)]
def atq:au:=aB Pg Tryz.f16 as7 aR
def Yn:PT (List RV):=pRs [pR true [rO 9,rO 5,rD (dI .i64),rD (dI .i64),rD (dI .i64)]]
def VV {β:Type}(g:List RV->β):ae->ae->Int->Int->Int->β:=Yn.unc g
abbrev Va:Type 1:=(α:Type)->ae->ae->(ae->ae->Op α)->Op α
def UL (α:Type)(a b:ae)(k1:ae->ae->Op α):Op α:=
 gK (dv 9 72 ([]:ae) a) (Hc α b
 (fun c=>k1 (([]:ae)++a) c))
def H8:Va:=sld UL
def mi:PT (List DV):=pA [pV true [dL,dL,(dI .i64),(dI .i64),(dI .i64)]]
def Vs (v:Va)(α:Type)(k:RT α):ae->ae->Int->Int->Int->Op α:=fun a b c d e=>v α a b (fun g h=>VV k g h c d e)
theorem aic:al Pg 16 13 ⟨mi,Vs H8⟩:=iP ek1 atq (ag Tryz.func16 (by kernel_rfl)) as2 fun _ _=>by kernel_rfl
def aod:TG:=[tT 0 [0],tT 1 [2]]
def ao4:au:=aB Pg Tryz.f149 aod aR
def NQ (α:Type)(a:Int)(k1:Bool->Op α):Op α:=
 iq α a 5000 80000
 (fun b=>k1 b)
def yq:dk:=sld NQ
def Lq (v:dk)(α:Type)(k:RT α):Int->Op α:=fun a=>v α a (fun b=>bA k b)
theorem acV:al Pg 149 5 ⟨bj,Lq yq⟩:=iP ek1 ao4 (ag Tryz.func149 (by kernel_rfl)) br fun _ _=>by kernel_rfl
def auv:TG:=[tT 0 [0],tT 1 [2]]
def auC:au:=aB Pg Tryz.f93 auv aR
def Jg (α:Type)(a:Int)(k1:Bool->Op α):Op α:=
 iq α a 0 80000
 (fun b=>k1 b)
def CS:dk:=sld Jg
def X0 (v:dk)(α:Type)(k:RT α):Int->Op α:=fun a=>v α a (fun b=>bA k b)
theorem akR:al Pg 93 5 ⟨bj,X0 CS⟩:=iP ek1 auC (ag Tryz.func93 (by kernel_rfl)) br fun _ _=>by kernel_rfl
def ath:TG:=[tT 0 [1,2,3],tT 1 [6]]
def asP:au:=aB Pg Tryz.f92 ath aR
def VR (α:Type)(c d a b:Int)(k1:Bool->Op α):Op α:=
 iq α c a b
 (fun e=>cK e
 (iq α d a b
 (fun g=>k1 g))
 (k1 false))
def CM:jP:=sld VR
def ZK (v:jP)(α:Type)(k:RT α):I4 (Op α):=fun a b c d=>v α a b c d (fun e=>bA k e)
theorem ajE:al Pg 92 19 ⟨ox,ZK CM⟩:=iP ek1 asP (ag Tryz.func92 (by kernel_rfl)) Yp fun _ _=>by kernel_rfl
def aro:TG:=[tT 0 [1,2,3],tT 1 [6]]
def am6:au:=aB Pg Tryz.f191 aro aR
def Na (α:Type)(c d a b:Int)(k1:Bool->Op α):Op α:=
 iq α c a b
 (fun e=>cK e
 (iq α d a b
 (fun g=>k1 g))
 (k1 false))
def uu:jP:=sld Na
def MR (v:jP)(α:Type)(k:RT α):I4 (Op α):=fun a b c d=>v α a b c d (fun e=>bA k e)
theorem aeS:al Pg 191 19 ⟨ox,MR uu⟩:=iP ek1 am6 (ag Tryz.func191 (by kernel_rfl)) Yp fun _ _=>by kernel_rfl
def amk:TG:=[tT 0 [0],tT 1 [2]]
def apn:au:=aB Pg Tryz.f189 amk aR
def O0 (α:Type)(a:Int)(k1:Bool->Op α):Op α:=
 iq α a 0 2
 (fun b=>k1 b)
def EY:dk:=sld O0
def M0 (v:dk)(α:Type)(k:RT α):Int->Op α:=fun a=>v α a (fun b=>bA k b)
theorem ab1:al Pg 189 5 ⟨bj,M0 EY⟩:=iP ek1 apn (ag Tryz.func189 (by kernel_rfl)) br fun _ _=>by kernel_rfl
def ana:SG:=[(9,iS 4),(10,iS 4),(15,iS 2),(18,iS 2),(20,iS 2),(25,iS 8),(27,iS 2),(30,iS 2),(33,iS 2),(35,iS 2),(40,iS 8),(42,iS 2)]
def apa:TG:=[tT 0 [1,2,4],tT 1 [1,2,4,6],tT 2 [2,4,6,13],tT 3 [2,4,6,7],tT 4 [2,4,6],tT 5 [4,5],tT 6 [2,4,6,8],tT 7 [2,4,6],tT 8 [4,5]]
def amH:au:=aB Pg Tryz.f122 apa aR
def RA:PT (List RV):=pRs [pR true [rD (dI .i64),rD (dI .i64),rD (dI .i64),rD (dI .i64),rD (dI .i64),rD (dI .i64),rD (dI .i64),rD (dI .i64)],pR false [rD dB]]
def Q3 {β:Type}(g:List RV->β):Int->Int->Int->Int->Int->Int->Int->Int->Bool->β:=RA.unc g
noncomputable abbrev Lk2:List bC:=⟨162,15,[⟨bD,Mr uA⟩]⟩::⟨89,10,[⟨dr,XY dK⟩]⟩::⟨141,25,[⟨bj,Lp eF⟩]⟩::⟨203,6,[⟨xM,OZ yN⟩]⟩::⟨140,10,[⟨dr,LS iV⟩]⟩::⟨205,15,[⟨OU,PS E1⟩]⟩::⟨116,5,[⟨bj,Kr yI⟩]⟩::⟨117,5,[⟨bj,LM zR⟩]⟩::⟨158,11,[⟨nL,Np yU⟩]⟩::⟨159,19,[⟨ox,Mq uw⟩]⟩::⟨92,19,[⟨ox,ZK CM⟩]⟩::⟨93,5,[⟨bj,X0 CS⟩]⟩::⟨189,5,[⟨bj,M0 EY⟩]⟩::⟨191,19,[⟨ox,MR uu⟩]⟩::⟨196,32,[⟨o9,MT uR⟩]⟩::⟨171,17,[⟨dr,Nr lS⟩]⟩::⟨107,5,[⟨bj,Nl nD⟩]⟩::⟨109,5,[⟨bj,Oh zt⟩]⟩::⟨108,5,[⟨bj,O7 vj⟩]⟩::⟨149,5,[⟨bj,Lq yq⟩]⟩::⟨167,17,[⟨jN,Md Ee⟩]⟩::⟨177,17,[⟨jN,P5 EX⟩]⟩::⟨41,25,[⟨aaH,Wc v7⟩]⟩::⟨121,36,[⟨Qm,LE iU⟩]⟩::⟨16,13,[⟨mi,Vs H8⟩]⟩::⟨11,20,[⟨o9,T8 C5⟩]⟩::Lk1
theorem ak2:bF Lk2 fun c=>bF c.l (al Pg c.f c.nt):=⟨⟨aft,TT⟩,⟨alg,TT⟩,⟨acd,TT⟩,⟨aeO,TT⟩,⟨acn,TT⟩,⟨ae4,TT⟩,⟨afI,TT⟩,⟨aen,TT⟩,⟨aeK,TT⟩,⟨af9,TT⟩,⟨ajE,TT⟩,⟨akR,TT⟩,⟨ab1,TT⟩,⟨aeS,TT⟩,⟨acH,TT⟩,⟨aeq,TT⟩,⟨adX,TT⟩,⟨afy,TT⟩,⟨ad6,TT⟩,⟨acV,TT⟩,⟨afU,TT⟩,⟨abM,TT⟩,⟨ala,TT⟩,⟨adx,TT⟩,⟨aic,TT⟩,⟨alQ,TT⟩,ak1⟩
def Ek2:aE:=aE.ofIO Lk2 bG io0
theorem ek2:Ek2.Ok Pg:=aE.ofIO_ok aP ak2
abbrev M6:Type 1:=(α:Type)->Int->Int->Int->Int->Int->(I4 (Bool->Op α))->Op α
def Qe (α:Type)(a b c d e:Int)(k1:I4 (Bool->Op α)):Op α:=
 cK (e == 1)
 (uA α a b
 (fun g h=>mg α a b
 (fun i=>k1 g d h c i)))
 (uA α c d
 (fun j l=>mg α c d
 (fun m=>k1 b j a l m)))
def jl:M6:=sld Qe
def Mv:PT (List DV):=pA [pV true [(dI .i64),(dI .i64),(dI .i64),(dI .i64)],vI]
def KE (v:M6)(α:Type)(k:RT α):I5 (Op α):=fun a b c d e=>v α a b c d e (fun g h i j l=>Q3 k a g c h i b j d l)
theorem aeQ:al Pg 122 44 ⟨Mv,KE jl⟩:=iP ek2 amH (ag Tryz.func122 (by kernel_rfl)) ana fun _ _=>by kernel_rfl
def am4:TG:=[tT 0 [0],tT 1 [3],tT 2 [3,4],tT 3 [4,5],tT 4 [4,6],tT 5 [6,23,24],tT 6 [6,23,24,25],tT 7 [6,23,24],tT 8 [6,23,24],tT 9 [2]]
def apT:TG:=[tT 6 [6,23,24]]
def Me:au:=aB Pg Tryz.f199 am4 apT
def md:OT:=tdC (ah.sub [1,1,1,1,1,0,1,0] (emb Me))
def Bh:PT St:=pS [sI 6,sI 23,sI 24] []
def zJ {β:Type}(g:St->β):Int->Int->Int->β:=Bh.unc g
def Tx:PT St:=pS [sI 6,sI 23,sI 24,sY 25 dB] []
def tV {β:Type}(g:St->β):Int->Int->Int->Bool->β:=Tx.unc g
def pg:ah:=ah.sub [1,1,1,1,1,0,1,0,0] (emb Me)
def nU (α:Type)(c b a:Int)(kn:Int->Int->Op α)(k1:Int->Int->Bool->Op α):Op α:=
 cK (decide (a < c))
 (dK α (w64 (b*b)) 1073741824
 (fun d=>kn d (w64 (a+1))))
 (k1 b a (decide (a < c)))
def kW (α:Type)(a:Int)(k1:Int->Int->Bool->Op α):Nat->Int->Int->Op α
 | 0,_,_=>none
 | n+1,b,c=>nU α a b c (kW α a k1 n) k1
def Di (α:Type)(a:Int)(k1:Int->Int->Bool->Op α)(b c:Int):Op α:=kW α a k1 aN b c
abbrev pj:Type 1:=(α:Type)->Int->(Int->Int->Bool->Op α)->Int->Int->Op α
def qH:pj:=sld Di
def Ij (v:pj)(α:Type)(K:KT α):Int->Int->Int->Op α:=fun b a c=>v α a (fun d e g=>tV (K (.exit 0)) d a e g) b c
theorem Zf (α:Type)(K:KT α)(Kn:SK α)(a b c:Int):zJ (fun σ=>aF Pg Ek2 br pg (cX (fun σ=>bW md σ Kn) K) σ) a b c=nU α b a c (fun a c=>zJ Kn a b c) (fun d e g=>tV (K (.exit 0)) d b e g):=by kernel_rfl
theorem Zw (α:Type)(K:KT α):∀ (n:Nat) (b a c:Int),kW α a (fun d e g=>tV (K (.exit 0)) d a e g) n b c=zJ (aS (aF Pg Ek2 br pg) md K n) b a c:=by
 intro n
 induction n with
 | zero=>intros;rfl
 | succ n ih=>intro b a c;exact (congrArg (fun kn=>nU α a b c kn (fun d e g=>tV (K (.exit 0)) d a e g)) (funext fun b=>funext fun c=>ih b a c)).trans (Zf α K (aS (aF Pg Ek2 br pg) md K n) b a c).symm
theorem XN:∀ (α:Type) (K:KT α),Ij qH α K=Bh.unc fun σ=>aS (aF Pg Ek2 br pg) md K aN σ:=bR (fun α K=>funext fun a=>funext fun b=>funext fun c=>Zw α K aN a b c)
def MS (α:Type)(b:Int)(k1:Int->Op α):Op α:=
 uk α (w64 (Int.tdiv (w64 ((w64 (256*b))*62831853)) 10000000))
 (fun a=>gK (decide (0<=a)) (dK α (w64 ((Int.fdiv (w64 (Int.tdiv (w64 ((w64 (256*b))*62831853)) 10000000)) (2 ^ (min (Int.toNat a) 64)))*(Int.fdiv (w64 (Int.tdiv (w64 ((w64 (256*b))*62831853)) 10000000)) (2 ^ (min (Int.toNat a) 64))))) 2147483648
 (fun c=>qH α a
 (fun d e g=>k1 d) (w64 ((w64 (1073741824 - (Int.fdiv (w64 (Int.tdiv (w64 ((w64 (256*b))*62831853)) 10000000)) (2 ^ (min (Int.toNat a) 64)))))+c)) 0)))
def vt:dl:=sld MS
def Qc (v:dl)(α:Type)(k:RT α):Int->Op α:=fun a=>v α a (fun b=>bu k b)
def aeT:ah:=(ah.put (.m [⟨Bh,Ij qH⟩]) [1,1,1,1,1,0,1,0] (emb Me))
theorem afF:al Pg 199 32 ⟨bj,Qc vt⟩:=iZ ek2 (ag Tryz.func199 (by kernel_rfl)) br aeT ((aA _ _).trans (aG _)) (bK (td:=md) (by kernel_rfl) (aK Me) ⟨XN,TT⟩) fun _ _=>by kernel_rfl
def aoZ:TG:=[tT 0 [0],tT 1 [3],tT 2 [3,4],tT 3 [4,5],tT 4 [4,6],tT 5 [6,31,32],tT 6 [6,31,32,33],tT 7 [6,31,32],tT 8 [6,31,32],tT 9 [2]]
def aqZ:TG:=[tT 6 [6,31,32]]
def LH:au:=aB Pg Tryz.f198 aoZ aqZ
def nR:OT:=tdC (ah.sub [1,1,1,1,1,0,1,0] (emb LH))
def yw:PT St:=pS [sI 6,sI 31,sI 32] []
def yO {β:Type}(g:St->β):Int->Int->Int->β:=yw.unc g
def YZ:PT St:=pS [sI 6,sI 31,sI 32,sY 33 dB] []
def sR {β:Type}(g:St->β):Int->Int->Int->Bool->β:=YZ.unc g
def pd:ah:=ah.sub [1,1,1,1,1,0,1,0,0] (emb LH)
def nX (α:Type)(c b a:Int)(kn:Int->Int->Op α)(k1:Int->Int->Bool->Op α):Op α:=
 cK (decide (a < c))
 (kn (w64 (Int.tdiv (w64 (b*b)) 1073741824)) (w64 (a+1)))
 (k1 b a (decide (a < c)))
def lf (α:Type)(a:Int)(k1:Int->Int->Bool->Op α):Nat->Int->Int->Op α
 | 0,_,_=>none
 | n+1,b,c=>nX α a b c (lf α a k1 n) k1
def Dk (α:Type)(a:Int)(k1:Int->Int->Bool->Op α)(b c:Int):Op α:=lf α a k1 aN b c
def rX:pj:=sld Dk
def If (v:pj)(α:Type)(K:KT α):Int->Int->Int->Op α:=fun b a c=>v α a (fun d e g=>sR (K (.exit 0)) d a e g) b c
theorem Uo (α:Type)(K:KT α)(Kn:SK α)(a b c:Int):yO (fun σ=>aF Pg Ek2 br pd (cX (fun σ=>bW nR σ Kn) K) σ) a b c=nX α b a c (fun a c=>yO Kn a b c) (fun d e g=>sR (K (.exit 0)) d b e g):=by kernel_rfl
theorem V3 (α:Type)(K:KT α):∀ (n:Nat) (b a c:Int),lf α a (fun d e g=>sR (K (.exit 0)) d a e g) n b c=yO (aS (aF Pg Ek2 br pd) nR K n) b a c:=by
 intro n
 induction n with
 | zero=>intros;rfl
 | succ n ih=>intro b a c;exact (congrArg (fun kn=>nX α a b c kn (fun d e g=>sR (K (.exit 0)) d a e g)) (funext fun b=>funext fun c=>ih b a c)).trans (Uo α K (aS (aF Pg Ek2 br pd) nR K n) b a c).symm
theorem S8:∀ (α:Type) (K:KT α),If rX α K=yw.unc fun σ=>aS (aF Pg Ek2 br pd) nR K aN σ:=bR (fun α K=>funext fun a=>funext fun b=>funext fun c=>V3 α K aN a b c)
def LA (α:Type)(d:Int)(k1:Int->Op α):Op α:=
 dK α (w64 ((w64 (256*d))*62831854)) 10000000
 (fun c=>uk α c
 (fun b=>gK (decide (0<=b)) (dK α c (w64 (1*2 ^ (min (Int.toNat b) 64)))
 (fun a=>dK α (w64 ((w64 (a*a))*a)) 6917529027641081856
 (fun e=>rX α b
 (fun g h i=>k1 g) (w64 ((w64 ((w64 (1073741824 - a))+(w64 (Int.tdiv (w64 (a*a)) 2147483648)))) - e)) 0)))))
def yl:dl:=sld LA
def Lj (v:dl)(α:Type)(k:RT α):Int->Op α:=fun a=>v α a (fun b=>bu k b)
def aev:ah:=(ah.put (.m [⟨yw,If rX⟩]) [1,1,1,1,1,0,1,0] (emb LH))
theorem agR:al Pg 198 40 ⟨bj,Lj yl⟩:=iZ ek2 (ag Tryz.func198 (by kernel_rfl)) br aev ((aA _ _).trans (aG _)) (bK (td:=nR) (by kernel_rfl) (aK LH) ⟨S8,TT⟩) fun _ _=>by kernel_rfl
def aoT:SG:=[(7,iS 2),(8,iS 2),(10,iS 2),(14,iT),(19,iT)]
def aoN:TG:=[tT 0 [2,3,4],tT 1 [4,5],tT 2 [4,5,6],tT 3 [4]]
def aoQ:au:=aB Pg Tryz.f222 aoN aR
def K1 (α:Type)(d e g h:Int)(k1:Int->Int->Op α):Op α:=
 uq α d e g h
 (fun b c=>ja α b c
 (fun i=>eF α i
 (fun a=>gK (a != 0) (gK (a != 0) (k1 (w64 (Int.tdiv (w64 (b*67108864)) a)) (w64 (Int.tdiv (w64 (c*67108864)) a)))))))
def yF:jY:=sld K1
def LB (v:jY)(α:Type)(k:RT α):I4 (Op α):=fun a b c d=>v α a b c d (fun e g=>cN k e g)
theorem aec:al Pg 222 24 ⟨jZ,LB yF⟩:=iP ek2 aoQ (ag Tryz.func222 (by kernel_rfl)) aoT fun _ _=>by kernel_rfl
def arb:TG:=[tT 0 [0,1,2],tT 1 [0,1,2,20],tT 2 [0,1,2],tT 3 [0,1,2,24],tT 4 [0,1,2],tT 5 [0,1,2,27],tT 6 [6,7],tT 7 [0,1,2,8],tT 8 [0,1,2,8],tT 9 [0,1,2,8,9],tT 10 [0,1,2,8,9,10],tT 11 [1,2,8,9,10,11],tT 12 [2,8,9,10,11,12],tT 13 [2,8,9,10,11,12,13],tT 14 [2,8,9,10,11,13,14],tT 15 [2,8,9,10,11,13,14,15],tT 16 [2,8,9,10,11,13,14,15,16],tT 17 [2,8,9,10,11,13,14,15,16,78],tT 18 [2,8,9,10,11,13,14,15,16],tT 19 [2,8,9,10,11,13,14,15,16],tT 20 [2,8,9,10,11,13,14,15,16,85],tT 21 [2,8,9,10,14,15,17],tT 22 [2,8,9,10,14,15,17,18],tT 23 [2,8,9,10,14,15,16,17,18],tT 24 [2,8,9,10,14,15,16,17,18,113],tT 25 [2,8,9,10,14,15,16,17,18],tT 26 [2,8,9,10,14,15,16,17,18],tT 27 [2,8,9,10,14,15,16,17,18,120],tT 28 [6,7]]
def an6:TG:=[tT 17 [2,8,9,10,11,13,14,15,16],tT 24 [2,8,9,10,14,15,16,17,18]]
def pN:au:=aB Pg Tryz.f185 arb an6
def mV:OT:=tdC (ah.sub [1,1,1,1,1,1,1,1,1,1,1,1,1,1,0,0] (emb pN))
def n6:OT:=tdC (ah.sub [1,1,1,1,1,1,1,1,1,1,1,1,1,1,1,1,1,1,0,0] (emb pN))
def fF:PT St:=pS [sY 2 (dI .u64),sY 8 (dI .u64),sY 9 (dI .u64),sY 10 (dI .u64),sY 11 (dI .u64),sY 13 (dI .u64),sY 14 (dI .u64),sY 15 (dI .u64),sY 16 (dI .u64)] []
def yy {β:Type}(g:St->β):I9 β:=fF.unc g
def UZ:PT St:=pS [sY 2 (dI .u64),sY 8 (dI .u64),sY 9 (dI .u64),sY 10 (dI .u64),sY 11 (dI .u64),sY 13 (dI .u64),sY 14 (dI .u64),sY 15 (dI .u64),sY 16 (dI .u64),sY 78 dB] []
def iY {β:Type}(g:St->β):Int->Int->Int->Int->Int->Int->Int->Int->Int->Bool->β:=UZ.unc g
def Vm:PT St:=pS [sY 2 (dI .u64),sY 8 (dI .u64),sY 9 (dI .u64),sY 10 (dI .u64),sY 11 (dI .u64),sY 13 (dI .u64),sY 14 (dI .u64),sY 15 (dI .u64),sY 16 (dI .u64),sY 85 dB] []
def nv {β:Type}(g:St->β):Int->Int->Int->Int->Int->Int->Int->Int->Int->Bool->β:=Vm.unc g
def fD:PT St:=pS [sY 2 (dI .u64),sY 8 (dI .u64),sY 9 (dI .u64),sY 10 (dI .u64),sY 14 (dI .u64),sY 15 (dI .u64),sY 16 (dI .u64),sY 17 (dI .u64),sY 18 (dI .u64)] []
def Bc {β:Type}(g:St->β):I9 β:=fD.unc g
def Tn:PT St:=pS [sY 2 (dI .u64),sY 8 (dI .u64),sY 9 (dI .u64),sY 10 (dI .u64),sY 14 (dI .u64),sY 15 (dI .u64),sY 16 (dI .u64),sY 17 (dI .u64),sY 18 (dI .u64),sY 113 dB] []
def jo {β:Type}(g:St->β):Int->Int->Int->Int->Int->Int->Int->Int->Int->Bool->β:=Tn.unc g
def aaM:PT St:=pS [sY 2 (dI .u64),sY 8 (dI .u64),sY 9 (dI .u64),sY 10 (dI .u64),sY 14 (dI .u64),sY 15 (dI .u64),sY 16 (dI .u64),sY 17 (dI .u64),sY 18 (dI .u64),sY 120 dB] []
def mq {β:Type}(g:St->β):Int->Int->Int->Int->Int->Int->Int->Int->Int->Bool->β:=aaM.unc g
def Sc:ah:=ah.sub [1,1,1,1,1,1,1,1,1,1,1,1,1,1,1,1,1,1,0,0,0,0] (emb pN)
abbrev oS:Type 1:=(α:Type)->Int->Int->Int->Int->(Bool->Op α)->(Bool->Op α)->Op α
def Dd (α:Type)(b c d a:Int)(k1:Bool->Op α)(k2:Bool->Op α):Op α:=
 cK (decide (4294967296<=a))
 (k1 true)
 (cK (decide ((IntKind.wrap .u64 ((IntKind.wrap .u64 (4294967296*d))+c)) < (IntKind.wrap .u64 (a*b))))
 (k1 (decide ((IntKind.wrap .u64 ((IntKind.wrap .u64 (4294967296*d))+c)) < (IntKind.wrap .u64 (a*b)))))
 (k2 (decide ((IntKind.wrap .u64 ((IntKind.wrap .u64 (4294967296*d))+c)) < (IntKind.wrap .u64 (a*b))))))
def kH:oS:=sld Dd
def t6 (v:oS)(α:Type)(K:KT α):I9 (Op α):=fun g h i a b j c l d=>v α a b c d (fun e=>jo (K .normal) g h i a b j c l d e) (fun e=>jo (K (.exit 2)) g h i a b j c l d e)
theorem Wp:∀ (α:Type) (K:KT α),t6 kH α K=fD.unc fun σ=>aF Pg Ek2 br Sc K σ:=bR (fun α K=>by kernel_rfl)
def oH:ah:=ah.sub [1,1,1,1,1,1,1,1,1,1,1,1,1,1,1,1,1,1,0,0,0] (ah.put (.m [⟨fD,t6 kH⟩]) [1,1,1,1,1,1,1,1,1,1,1,1,1,1,1,1,1,1,0,0,0] (emb pN))
def tR (α:Type)(b d e a c:Int)(kn:Int->Int->Op α)(k1:Int->Int->Bool->Op α)(k2:Int->Int->Bool->Op α):Op α:=
 kH α d e a c
 (fun h=>cK (decide (4294967296<=(IntKind.wrap .u64 (a+b))))
 (k1 (IntKind.wrap .u64 (a+b)) (IntKind.wrap .u64 (c - 1)) (decide (4294967296<=(IntKind.wrap .u64 (a+b)))))
 (kn (IntKind.wrap .u64 (a+b)) (IntKind.wrap .u64 (c - 1))))
 (fun g=>k2 a c g)
def kR (α:Type)(a b c:Int)(k1:Int->Int->Bool->Op α)(k2:Int->Int->Bool->Op α):Nat->Int->Int->Op α
 | 0,_,_=>none
 | n+1,d,e=>tR α a b c d e (kR α a b c k1 k2 n) k1 k2
def DA (α:Type)(a b c:Int)(k1:Int->Int->Bool->Op α)(k2:Int->Int->Bool->Op α)(d e:Int):Op α:=kR α a b c k1 k2 aN d e
abbrev oq:Type 1:=(α:Type)->Int->Int->Int->(Int->Int->Bool->Op α)->(Int->Int->Bool->Op α)->Int->Int->Op α
def mP:oq:=sld DA
def zk (v:oq)(α:Type)(K:KT α):I9 (Op α):=fun h i a b c j m l o=>v α a b c (fun d e g=>mq (K (.exit 2)) h i a b c j d l e g) (fun d e g=>jo (K (.exit 2)) h i a b c j d l e g) m o
theorem Xl (α:Type)(K:KT α)(Kn:SK α)(d e a b c g h i j:Int):Bc (fun σ=>aF Pg Ek2 br oH (cX (fun σ=>bW n6 σ Kn) K) σ) d e a b c g h i j=tR α a b c h j (fun h j=>Bc Kn d e a b c g h i j) (fun l m o=>mq (K (.exit 2)) d e a b c g l i m o) (fun l m o=>jo (K (.exit 2)) d e a b c g l i m o):=by kernel_rfl
theorem SW (α:Type)(K:KT α):∀ (n:Nat) (d e a b c g i h j:Int),kR α a b c (fun l m o=>mq (K (.exit 2)) d e a b c g l h m o) (fun l m o=>jo (K (.exit 2)) d e a b c g l h m o) n i j=Bc (aS (aF Pg Ek2 br oH) n6 K n) d e a b c g i h j:=by
 intro n
 induction n with
 | zero=>intros;rfl
 | succ n ih=>intro d e a b c g i h j;exact (congrArg (fun kn=>tR α a b c i j kn (fun l m o=>mq (K (.exit 2)) d e a b c g l h m o) (fun l m o=>jo (K (.exit 2)) d e a b c g l h m o)) (funext fun i=>funext fun j=>ih d e a b c g i h j)).trans (Xl α K (aS (aF Pg Ek2 br oH) n6 K n) d e a b c g i h j).symm
theorem Ui:∀ (α:Type) (K:KT α),zk mP α K=fD.unc fun σ=>aS (aF Pg Ek2 br oH) n6 K aN σ:=bR (fun α K=>funext fun a=>funext fun b=>funext fun c=>funext fun d=>funext fun e=>funext fun g=>funext fun h=>funext fun i=>funext fun j=>SW α K aN a b c d e g h i j)
def Sn:ah:=ah.sub [1,1,1,1,1,1,1,1,1,1,1,1,1,1,1,1,1,1,0] (ah.put (.m [⟨fD,zk mP⟩]) [1,1,1,1,1,1,1,1,1,1,1,1,1,1,1,1,1,1,0,0] (ah.put (.m [⟨fD,t6 kH⟩]) [1,1,1,1,1,1,1,1,1,1,1,1,1,1,1,1,1,1,0,0,0] (emb pN)))
abbrev oI:Type 1:=(α:Type)->Int->Int->Int->Int->Int->(Int->Int->Bool->Op α)->(Int->Int->Bool->Op α)->Op α
def CC (α:Type)(a b c d e:Int)(k1:Int->Int->Bool->Op α)(k2:Int->Int->Bool->Op α):Op α:=
 mP α a b c
 (fun g h i=>k1 g h i)
 (fun j l m=>k2 j l m) d e
def jf:oI:=sld CC
def Hr (v:oI)(α:Type)(K:KT α):I9 (Op α):=fun h i a b c j m l o=>v α a b c m o (fun d e g=>mq (K .normal) h i a b c j d l e g) (fun d e g=>jo (K .normal) h i a b c j d l e g)
theorem Us:∀ (α:Type) (K:KT α),Hr jf α K=fD.unc fun σ=>aF Pg Ek2 br Sn K σ:=bR (fun α K=>by kernel_rfl)
def Rw:ah:=ah.sub [1,1,1,1,1,1,1,1,1,1,1,1,1,1,0,0,0,0] (emb pN)
def C8 (α:Type)(b c a d:Int)(k1:Bool->Op α)(k2:Bool->Op α):Op α:=
 cK (decide (4294967296<=a))
 (k1 true)
 (cK (decide ((IntKind.wrap .u64 ((IntKind.wrap .u64 (4294967296*d))+c)) < (IntKind.wrap .u64 (a*b))))
 (k1 (decide ((IntKind.wrap .u64 ((IntKind.wrap .u64 (4294967296*d))+c)) < (IntKind.wrap .u64 (a*b)))))
 (k2 (decide ((IntKind.wrap .u64 ((IntKind.wrap .u64 (4294967296*d))+c)) < (IntKind.wrap .u64 (a*b))))))
def kN:oS:=sld C8
def sB (v:oS)(α:Type)(K:KT α):I9 (Op α):=fun g h i a j b l c d=>v α a b c d (fun e=>iY (K .normal) g h i a j b l c d e) (fun e=>iY (K (.exit 0)) g h i a j b l c d e)
theorem Xm:∀ (α:Type) (K:KT α),sB kN α K=fF.unc fun σ=>aF Pg Ek2 br Rw K σ:=bR (fun α K=>by kernel_rfl)
def oJ:ah:=ah.sub [1,1,1,1,1,1,1,1,1,1,1,1,1,1,0,0,0] (ah.put (.m [⟨fF,sB kN⟩]) [1,1,1,1,1,1,1,1,1,1,1,1,1,1,0,0,0] (emb pN))
def tj (α:Type)(b d e c a:Int)(kn:Int->Int->Op α)(k1:Int->Int->Bool->Op α)(k2:Int->Int->Bool->Op α):Op α:=
 kN α d e c a
 (fun h=>cK (decide (4294967296<=(IntKind.wrap .u64 (a+b))))
 (k1 (IntKind.wrap .u64 (c - 1)) (IntKind.wrap .u64 (a+b)) (decide (4294967296<=(IntKind.wrap .u64 (a+b)))))
 (kn (IntKind.wrap .u64 (c - 1)) (IntKind.wrap .u64 (a+b))))
 (fun g=>k2 c a g)
def li (α:Type)(a b c:Int)(k1:Int->Int->Bool->Op α)(k2:Int->Int->Bool->Op α):Nat->Int->Int->Op α
 | 0,_,_=>none
 | n+1,d,e=>tj α a b c d e (li α a b c k1 k2 n) k1 k2
def Cn (α:Type)(a b c:Int)(k1:Int->Int->Bool->Op α)(k2:Int->Int->Bool->Op α)(d e:Int):Op α:=li α a b c k1 k2 aN d e
def oa:oq:=sld Cn
def Bi (v:oq)(α:Type)(K:KT α):I9 (Op α):=fun h i a b j c l m o=>v α a b c (fun d e g=>nv (K (.exit 0)) h i a b j c l d e g) (fun d e g=>iY (K (.exit 0)) h i a b j c l d e g) m o
theorem Vd (α:Type)(K:KT α)(Kn:SK α)(d e a b g c h i j:Int):yy (fun σ=>aF Pg Ek2 br oJ (cX (fun σ=>bW mV σ Kn) K) σ) d e a b g c h i j=tj α a b c i j (fun i j=>yy Kn d e a b g c h i j) (fun l m o=>nv (K (.exit 0)) d e a b g c h l m o) (fun l m o=>iY (K (.exit 0)) d e a b g c h l m o):=by kernel_rfl
theorem Xa (α:Type)(K:KT α):∀ (n:Nat) (d e a b g c h i j:Int),li α a b c (fun l m o=>nv (K (.exit 0)) d e a b g c h l m o) (fun l m o=>iY (K (.exit 0)) d e a b g c h l m o) n i j=yy (aS (aF Pg Ek2 br oJ) mV K n) d e a b g c h i j:=by
 intro n
 induction n with
 | zero=>intros;rfl
 | succ n ih=>intro d e a b g c h i j;exact (congrArg (fun kn=>tj α a b c i j kn (fun l m o=>nv (K (.exit 0)) d e a b g c h l m o) (fun l m o=>iY (K (.exit 0)) d e a b g c h l m o)) (funext fun i=>funext fun j=>ih d e a b g c h i j)).trans (Vd α K (aS (aF Pg Ek2 br oJ) mV K n) d e a b g c h i j).symm
theorem VC:∀ (α:Type) (K:KT α),Bi oa α K=fF.unc fun σ=>aS (aF Pg Ek2 br oJ) mV K aN σ:=bR (fun α K=>funext fun a=>funext fun b=>funext fun c=>funext fun d=>funext fun e=>funext fun g=>funext fun h=>funext fun i=>funext fun j=>Xa α K aN a b c d e g h i j)
def RQ:ah:=ah.sub [1,1,1,1,1,1,1,1,1,1,1,1,1,1,0] (ah.put (.m [⟨fF,Bi oa⟩]) [1,1,1,1,1,1,1,1,1,1,1,1,1,1,0,0] (ah.put (.m [⟨fF,sB kN⟩]) [1,1,1,1,1,1,1,1,1,1,1,1,1,1,0,0,0] (emb pN)))
def Cg (α:Type)(a b c d e:Int)(k1:Int->Int->Bool->Op α)(k2:Int->Int->Bool->Op α):Op α:=
 oa α a b c
 (fun g h i=>k1 g h i)
 (fun j l m=>k2 j l m) d e
def nM:oI:=sld Cg
def Gq (v:oI)(α:Type)(K:KT α):I9 (Op α):=fun h i a b j c l m o=>v α a b c m o (fun d e g=>nv (K .normal) h i a b j c l d e g) (fun d e g=>iY (K .normal) h i a b j c l d e g)
theorem TZ:∀ (α:Type) (K:KT α),Gq nM α K=fF.unc fun σ=>aF Pg Ek2 br RQ K σ:=bR (fun α K=>by kernel_rfl)
def O2 (α:Type)(d c b:Int)(k1:Int->Int->Op α):Op α:=
 cK (b == 0)
 (none)
 (cK (decide (b<=d))
 (none)
 (cK (d == 0)
 (gK (b != 0) (gK (b != 0) (k1 (IntKind.wrap .u64 (Int.tdiv c b)) (Int.tmod c b))))
 (yN α b
 (fun a=>gK (decide (0<=(IntKind.wrap .u64 (a)))) (gK (decide (0<=(IntKind.wrap .u64 (a)))) (gK (decide (0<=(IntKind.wrap .u64 (64 - (IntKind.wrap .u64 (a)))))) (gK (decide (0<=(IntKind.wrap .u64 (a)))) (gK ((Int.fdiv (IntKind.wrap .u64 (b*2 ^ (min (Int.toNat (IntKind.wrap .u64 (a))) 64))) (2 ^ 32)) != 0) (nM α (Int.fdiv (IntKind.wrap .u64 (b*2 ^ (min (Int.toNat (IntKind.wrap .u64 (a))) 64))) (2 ^ 32)) (lI .u64 (IntKind.wrap .u64 (b*2 ^ (min (Int.toNat (IntKind.wrap .u64 (a))) 64))) 4294967295) (Int.fdiv (IntKind.wrap .u64 (c*2 ^ (min (Int.toNat (IntKind.wrap .u64 (a))) 64))) (2 ^ 32)) (IntKind.wrap .u64 (Int.tdiv (iOr .u64 (IntKind.wrap .u64 (d*2 ^ (min (Int.toNat (IntKind.wrap .u64 (a))) 64))) (Int.fdiv c (2 ^ (min (Int.toNat (IntKind.wrap .u64 (64 - (IntKind.wrap .u64 (a))))) 64)))) (Int.fdiv (IntKind.wrap .u64 (b*2 ^ (min (Int.toNat (IntKind.wrap .u64 (a))) 64))) (2 ^ 32)))) (IntKind.wrap .u64 ((iOr .u64 (IntKind.wrap .u64 (d*2 ^ (min (Int.toNat (IntKind.wrap .u64 (a))) 64))) (Int.fdiv c (2 ^ (min (Int.toNat (IntKind.wrap .u64 (64 - (IntKind.wrap .u64 (a))))) 64)))) - (IntKind.wrap .u64 ((IntKind.wrap .u64 (Int.tdiv (iOr .u64 (IntKind.wrap .u64 (d*2 ^ (min (Int.toNat (IntKind.wrap .u64 (a))) 64))) (Int.fdiv c (2 ^ (min (Int.toNat (IntKind.wrap .u64 (64 - (IntKind.wrap .u64 (a))))) 64)))) (Int.fdiv (IntKind.wrap .u64 (b*2 ^ (min (Int.toNat (IntKind.wrap .u64 (a))) 64))) (2 ^ 32))))*(Int.fdiv (IntKind.wrap .u64 (b*2 ^ (min (Int.toNat (IntKind.wrap .u64 (a))) 64))) (2 ^ 32))))))
 (fun e m o=>gK ((Int.fdiv (IntKind.wrap .u64 (b*2 ^ (min (Int.toNat (IntKind.wrap .u64 (a))) 64))) (2 ^ 32)) != 0) (jf α (Int.fdiv (IntKind.wrap .u64 (b*2 ^ (min (Int.toNat (IntKind.wrap .u64 (a))) 64))) (2 ^ 32)) (lI .u64 (IntKind.wrap .u64 (b*2 ^ (min (Int.toNat (IntKind.wrap .u64 (a))) 64))) 4294967295) (lI .u64 (IntKind.wrap .u64 (c*2 ^ (min (Int.toNat (IntKind.wrap .u64 (a))) 64))) 4294967295) (IntKind.wrap .u64 ((IntKind.wrap .u64 ((IntKind.wrap .u64 ((IntKind.wrap .u64 ((iOr .u64 (IntKind.wrap .u64 (d*2 ^ (min (Int.toNat (IntKind.wrap .u64 (a))) 64))) (Int.fdiv c (2 ^ (min (Int.toNat (IntKind.wrap .u64 (64 - (IntKind.wrap .u64 (a))))) 64))))*4294967296))+(Int.fdiv (IntKind.wrap .u64 (c*2 ^ (min (Int.toNat (IntKind.wrap .u64 (a))) 64))) (2 ^ 32)))) - (IntKind.wrap .u64 (e*(IntKind.wrap .u64 (b*2 ^ (min (Int.toNat (IntKind.wrap .u64 (a))) 64))))))) - (IntKind.wrap .u64 ((IntKind.wrap .u64 (Int.tdiv (IntKind.wrap .u64 ((IntKind.wrap .u64 ((IntKind.wrap .u64 ((iOr .u64 (IntKind.wrap .u64 (d*2 ^ (min (Int.toNat (IntKind.wrap .u64 (a))) 64))) (Int.fdiv c (2 ^ (min (Int.toNat (IntKind.wrap .u64 (64 - (IntKind.wrap .u64 (a))))) 64))))*4294967296))+(Int.fdiv (IntKind.wrap .u64 (c*2 ^ (min (Int.toNat (IntKind.wrap .u64 (a))) 64))) (2 ^ 32)))) - (IntKind.wrap .u64 (e*(IntKind.wrap .u64 (b*2 ^ (min (Int.toNat (IntKind.wrap .u64 (a))) 64))))))) (Int.fdiv (IntKind.wrap .u64 (b*2 ^ (min (Int.toNat (IntKind.wrap .u64 (a))) 64))) (2 ^ 32))))*(Int.fdiv (IntKind.wrap .u64 (b*2 ^ (min (Int.toNat (IntKind.wrap .u64 (a))) 64))) (2 ^ 32)))))) (IntKind.wrap .u64 (Int.tdiv (IntKind.wrap .u64 ((IntKind.wrap .u64 ((IntKind.wrap .u64 ((iOr .u64 (IntKind.wrap .u64 (d*2 ^ (min (Int.toNat (IntKind.wrap .u64 (a))) 64))) (Int.fdiv c (2 ^ (min (Int.toNat (IntKind.wrap .u64 (64 - (IntKind.wrap .u64 (a))))) 64))))*4294967296))+(Int.fdiv (IntKind.wrap .u64 (c*2 ^ (min (Int.toNat (IntKind.wrap .u64 (a))) 64))) (2 ^ 32)))) - (IntKind.wrap .u64 (e*(IntKind.wrap .u64 (b*2 ^ (min (Int.toNat (IntKind.wrap .u64 (a))) 64))))))) (Int.fdiv (IntKind.wrap .u64 (b*2 ^ (min (Int.toNat (IntKind.wrap .u64 (a))) 64))) (2 ^ 32))))
 (fun p h q=>gK (decide (0<=(IntKind.wrap .u64 (a)))) (k1 (IntKind.wrap .u64 ((IntKind.wrap .u64 (e*4294967296))+h)) (Int.fdiv (IntKind.wrap .u64 ((IntKind.wrap .u64 ((IntKind.wrap .u64 ((IntKind.wrap .u64 ((IntKind.wrap .u64 ((IntKind.wrap .u64 ((iOr .u64 (IntKind.wrap .u64 (d*2 ^ (min (Int.toNat (IntKind.wrap .u64 (a))) 64))) (Int.fdiv c (2 ^ (min (Int.toNat (IntKind.wrap .u64 (64 - (IntKind.wrap .u64 (a))))) 64))))*4294967296))+(Int.fdiv (IntKind.wrap .u64 (c*2 ^ (min (Int.toNat (IntKind.wrap .u64 (a))) 64))) (2 ^ 32)))) - (IntKind.wrap .u64 (e*(IntKind.wrap .u64 (b*2 ^ (min (Int.toNat (IntKind.wrap .u64 (a))) 64)))))))*4294967296))+(lI .u64 (IntKind.wrap .u64 (c*2 ^ (min (Int.toNat (IntKind.wrap .u64 (a))) 64))) 4294967295))) - (IntKind.wrap .u64 (h*(IntKind.wrap .u64 (b*2 ^ (min (Int.toNat (IntKind.wrap .u64 (a))) 64))))))) (2 ^ (min (Int.toNat (IntKind.wrap .u64 (a))) 64)))))
 (fun r i s=>gK (decide (0<=(IntKind.wrap .u64 (a)))) (k1 (IntKind.wrap .u64 ((IntKind.wrap .u64 (e*4294967296))+i)) (Int.fdiv (IntKind.wrap .u64 ((IntKind.wrap .u64 ((IntKind.wrap .u64 ((IntKind.wrap .u64 ((IntKind.wrap .u64 ((IntKind.wrap .u64 ((iOr .u64 (IntKind.wrap .u64 (d*2 ^ (min (Int.toNat (IntKind.wrap .u64 (a))) 64))) (Int.fdiv c (2 ^ (min (Int.toNat (IntKind.wrap .u64 (64 - (IntKind.wrap .u64 (a))))) 64))))*4294967296))+(Int.fdiv (IntKind.wrap .u64 (c*2 ^ (min (Int.toNat (IntKind.wrap .u64 (a))) 64))) (2 ^ 32)))) - (IntKind.wrap .u64 (e*(IntKind.wrap .u64 (b*2 ^ (min (Int.toNat (IntKind.wrap .u64 (a))) 64)))))))*4294967296))+(lI .u64 (IntKind.wrap .u64 (c*2 ^ (min (Int.toNat (IntKind.wrap .u64 (a))) 64))) 4294967295))) - (IntKind.wrap .u64 (i*(IntKind.wrap .u64 (b*2 ^ (min (Int.toNat (IntKind.wrap .u64 (a))) 64))))))) (2 ^ (min (Int.toNat (IntKind.wrap .u64 (a))) 64)))))))
 (fun g t w=>gK ((Int.fdiv (IntKind.wrap .u64 (b*2 ^ (min (Int.toNat (IntKind.wrap .u64 (a))) 64))) (2 ^ 32)) != 0) (jf α (Int.fdiv (IntKind.wrap .u64 (b*2 ^ (min (Int.toNat (IntKind.wrap .u64 (a))) 64))) (2 ^ 32)) (lI .u64 (IntKind.wrap .u64 (b*2 ^ (min (Int.toNat (IntKind.wrap .u64 (a))) 64))) 4294967295) (lI .u64 (IntKind.wrap .u64 (c*2 ^ (min (Int.toNat (IntKind.wrap .u64 (a))) 64))) 4294967295) (IntKind.wrap .u64 ((IntKind.wrap .u64 ((IntKind.wrap .u64 ((IntKind.wrap .u64 ((iOr .u64 (IntKind.wrap .u64 (d*2 ^ (min (Int.toNat (IntKind.wrap .u64 (a))) 64))) (Int.fdiv c (2 ^ (min (Int.toNat (IntKind.wrap .u64 (64 - (IntKind.wrap .u64 (a))))) 64))))*4294967296))+(Int.fdiv (IntKind.wrap .u64 (c*2 ^ (min (Int.toNat (IntKind.wrap .u64 (a))) 64))) (2 ^ 32)))) - (IntKind.wrap .u64 (g*(IntKind.wrap .u64 (b*2 ^ (min (Int.toNat (IntKind.wrap .u64 (a))) 64))))))) - (IntKind.wrap .u64 ((IntKind.wrap .u64 (Int.tdiv (IntKind.wrap .u64 ((IntKind.wrap .u64 ((IntKind.wrap .u64 ((iOr .u64 (IntKind.wrap .u64 (d*2 ^ (min (Int.toNat (IntKind.wrap .u64 (a))) 64))) (Int.fdiv c (2 ^ (min (Int.toNat (IntKind.wrap .u64 (64 - (IntKind.wrap .u64 (a))))) 64))))*4294967296))+(Int.fdiv (IntKind.wrap .u64 (c*2 ^ (min (Int.toNat (IntKind.wrap .u64 (a))) 64))) (2 ^ 32)))) - (IntKind.wrap .u64 (g*(IntKind.wrap .u64 (b*2 ^ (min (Int.toNat (IntKind.wrap .u64 (a))) 64))))))) (Int.fdiv (IntKind.wrap .u64 (b*2 ^ (min (Int.toNat (IntKind.wrap .u64 (a))) 64))) (2 ^ 32))))*(Int.fdiv (IntKind.wrap .u64 (b*2 ^ (min (Int.toNat (IntKind.wrap .u64 (a))) 64))) (2 ^ 32)))))) (IntKind.wrap .u64 (Int.tdiv (IntKind.wrap .u64 ((IntKind.wrap .u64 ((IntKind.wrap .u64 ((iOr .u64 (IntKind.wrap .u64 (d*2 ^ (min (Int.toNat (IntKind.wrap .u64 (a))) 64))) (Int.fdiv c (2 ^ (min (Int.toNat (IntKind.wrap .u64 (64 - (IntKind.wrap .u64 (a))))) 64))))*4294967296))+(Int.fdiv (IntKind.wrap .u64 (c*2 ^ (min (Int.toNat (IntKind.wrap .u64 (a))) 64))) (2 ^ 32)))) - (IntKind.wrap .u64 (g*(IntKind.wrap .u64 (b*2 ^ (min (Int.toNat (IntKind.wrap .u64 (a))) 64))))))) (Int.fdiv (IntKind.wrap .u64 (b*2 ^ (min (Int.toNat (IntKind.wrap .u64 (a))) 64))) (2 ^ 32))))
 (fun z j A=>gK (decide (0<=(IntKind.wrap .u64 (a)))) (k1 (IntKind.wrap .u64 ((IntKind.wrap .u64 (g*4294967296))+j)) (Int.fdiv (IntKind.wrap .u64 ((IntKind.wrap .u64 ((IntKind.wrap .u64 ((IntKind.wrap .u64 ((IntKind.wrap .u64 ((IntKind.wrap .u64 ((iOr .u64 (IntKind.wrap .u64 (d*2 ^ (min (Int.toNat (IntKind.wrap .u64 (a))) 64))) (Int.fdiv c (2 ^ (min (Int.toNat (IntKind.wrap .u64 (64 - (IntKind.wrap .u64 (a))))) 64))))*4294967296))+(Int.fdiv (IntKind.wrap .u64 (c*2 ^ (min (Int.toNat (IntKind.wrap .u64 (a))) 64))) (2 ^ 32)))) - (IntKind.wrap .u64 (g*(IntKind.wrap .u64 (b*2 ^ (min (Int.toNat (IntKind.wrap .u64 (a))) 64)))))))*4294967296))+(lI .u64 (IntKind.wrap .u64 (c*2 ^ (min (Int.toNat (IntKind.wrap .u64 (a))) 64))) 4294967295))) - (IntKind.wrap .u64 (j*(IntKind.wrap .u64 (b*2 ^ (min (Int.toNat (IntKind.wrap .u64 (a))) 64))))))) (2 ^ (min (Int.toNat (IntKind.wrap .u64 (a))) 64)))))
 (fun B l C=>gK (decide (0<=(IntKind.wrap .u64 (a)))) (k1 (IntKind.wrap .u64 ((IntKind.wrap .u64 (g*4294967296))+l)) (Int.fdiv (IntKind.wrap .u64 ((IntKind.wrap .u64 ((IntKind.wrap .u64 ((IntKind.wrap .u64 ((IntKind.wrap .u64 ((IntKind.wrap .u64 ((iOr .u64 (IntKind.wrap .u64 (d*2 ^ (min (Int.toNat (IntKind.wrap .u64 (a))) 64))) (Int.fdiv c (2 ^ (min (Int.toNat (IntKind.wrap .u64 (64 - (IntKind.wrap .u64 (a))))) 64))))*4294967296))+(Int.fdiv (IntKind.wrap .u64 (c*2 ^ (min (Int.toNat (IntKind.wrap .u64 (a))) 64))) (2 ^ 32)))) - (IntKind.wrap .u64 (g*(IntKind.wrap .u64 (b*2 ^ (min (Int.toNat (IntKind.wrap .u64 (a))) 64)))))))*4294967296))+(lI .u64 (IntKind.wrap .u64 (c*2 ^ (min (Int.toNat (IntKind.wrap .u64 (a))) 64))) 4294967295))) - (IntKind.wrap .u64 (l*(IntKind.wrap .u64 (b*2 ^ (min (Int.toNat (IntKind.wrap .u64 (a))) 64))))))) (2 ^ (min (Int.toNat (IntKind.wrap .u64 (a))) 64))))))))))))))))
def uE:jV:=sld O2
def Qs:PT (List DV):=pA [pV false [(dI .u64)],pV false [(dI .u64)],pV false [(dI .u64)]]
def PW (v:jV)(α:Type)(k:RT α):Int->Int->Int->Op α:=fun a b c=>v α a b c (fun d e=>Ch k d e)
def abn:ah:=(ah.put (.m [⟨fF,Gq nM⟩]) [1,1,1,1,1,1,1,1,1,1,1,1,1,1] (ah.put (.m [⟨fF,Bi oa⟩]) [1,1,1,1,1,1,1,1,1,1,1,1,1,1,0,0] (ah.put (.m [⟨fF,sB kN⟩]) [1,1,1,1,1,1,1,1,1,1,1,1,1,1,0,0,0] (ah.put (.m [⟨fD,Hr jf⟩]) [1,1,1,1,1,1,1,1,1,1,1,1,1,1,1,1,1,1] (ah.put (.m [⟨fD,zk mP⟩]) [1,1,1,1,1,1,1,1,1,1,1,1,1,1,1,1,1,1,0,0] (ah.put (.m [⟨fD,t6 kH⟩]) [1,1,1,1,1,1,1,1,1,1,1,1,1,1,1,1,1,1,0,0,0] (emb pN)))))))
theorem acf:al Pg 185 135 ⟨Qs,PW uE⟩:=iZ ek2 (ag Tryz.func185 (by kernel_rfl)) br abn ((aA _ _).trans ((aA _ _).trans ((aA _ _).trans ((aA _ _).trans ((aA _ _).trans ((aA _ _).trans (aG _))))))) (bc (by kernel_rfl) (bK (td:=mV) (by kernel_rfl) (bc (by kernel_rfl) (bc (by kernel_rfl) (bK (td:=n6) (by kernel_rfl) (bc (by kernel_rfl) (aK pN) ⟨Wp,TT⟩) ⟨Ui,TT⟩) ⟨Us,TT⟩) ⟨Xm,TT⟩) ⟨VC,TT⟩) ⟨TZ,TT⟩) fun _ _=>by kernel_rfl
def ah6:SG:=[(3,iS 2)]
def amJ:TG:=[tT 0 [1],tT 1 [2]]
def arl:au:=aB Pg Tryz.f139 amJ aR
def Nb (α:Type)(a b:Int)(k1:Int->Op α):Op α:=
 ja α a b
 (fun c=>eF α c
 (fun d=>k1 d))
def mr:dt:=sld Nb
def MK (v:dt)(α:Type)(k:RT α):Int->Int->Op α:=fun a b=>v α a b (fun c=>bu k c)
theorem aeR:al Pg 139 6 ⟨bD,MK mr⟩:=iP ek2 arl (ag Tryz.func139 (by kernel_rfl)) ah6 fun _ _=>by kernel_rfl
def aqY:TG:=[tT 0 [0],tT 1 [0,3],tT 2 [3,10],tT 3 [3],tT 4 [2]]
def apo:au:=aB Pg Tryz.f144 aqY aR
def Fc (α:Type)(b:Int)(k1:Int->Op α):Op α:=
 eF α b
 (fun a=>cK (decide ((w64 (a*a)) < b))
 (k1 (w64 (a+1)))
 (k1 a))
def m6:dl:=sld Fc
def Py (v:dl)(α:Type)(k:RT α):Int->Op α:=fun a=>v α a (fun b=>bu k b)
theorem abV:al Pg 144 14 ⟨bj,Py m6⟩:=iP ek2 apo (ag Tryz.func144 (by kernel_rfl)) br fun _ _=>by kernel_rfl
def amu:SG:=[(5,iT),(8,iS 3),(10,iS 2),(11,iT),(17,iT)]
def an7:TG:=[tT 0 [1,2,3],tT 1 [1,2,3,7],tT 2 [3,4],tT 3 [3,4]]
def amC:au:=aB Pg Tryz.f180 an7 aR
abbrev PY:Type 1:=(α:Type)->Int->Int->Int->(Int->Int->Int->Op α)->Op α
def Ml (α:Type)(a b c:Int)(k1:Int->Int->Int->Op α):Op α:=
 iV α c 1000000000
 (fun d=>cK (!d)
 (k1 a b 2)
 (jt α a b (Int.tmod (w64 ((Int.tmod c 4)+4)) 4)
 (fun e g=>k1 e g 0)))
def E0:PY:=sld Ml
def Qx:PT (List DV):=pA [pV true [(dI .i64),(dI .i64),(dI .i64)],pV false [(dP [(dI .i64)] 0)]]
def Nw (v:PY)(α:Type)(k:RT α):I4 (Op α):=fun a b c d=>v α a b d (fun e g h=>ei k e g c h)
theorem ad7:al Pg 180 19 ⟨Qx,Nw E0⟩:=iP ek2 amC (ag Tryz.func180 (by kernel_rfl)) amu fun _ _=>by kernel_rfl
def apg:TG:=[tT 0 [0],tT 1 [2]]
def apQ:au:=aB Pg Tryz.f186 apg aR
abbrev Qj:Type 1:=(α:Type)->Nat->(Bool->Op α)->Op α
def PG (α:Type)(a:Nat)(k1:Bool->Op α):Op α:=
 EH α a
 (k1 false)
 (fun b=>cK ((FloatKind.format .f64).order b a == some Ordering.eq)
 (E1 α a 0
 (fun c=>k1 (!c)))
 (k1 false))
def Ba:Qj:=sld PG
def Nk (v:Qj)(α:Type)(k:RT α):Nat->Op α:=fun a=>v α a (fun b=>bA k b)
theorem act:al Pg 186 12 ⟨jK,Nk Ba⟩:=iP ek2 apQ (ag Tryz.func186 (by kernel_rfl)) br fun _ _=>by kernel_rfl
def ahI:SG:=[(6,iT),(12,iT),(18,iT),(24,iS 2),(27,iT)]
def amo:TG:=[tT 0 [1,2],tT 1 [1,2,21],tT 2 [2,3],tT 3 [2,3]]
def Tz:au:=aB Pg Tryz.f182 amo aR
def AF:PT St:=pS [sP 1,sP 2] [az 1 (xs 3),az 2 [(cD (dX .f64)),xI]]
def ang {β:Type}(g:St->β):Int->Int->Int->Nat->Nat->Int->β:=AF.unc g
def Yi:PT St:=pS [sP 1,sP 2,sY 21 dB] [az 1 (xs 3),az 2 [(cD (dX .f64)),xI]]
def ZC {β:Type}(g:St->β):Bool->Int->Int->Int->Nat->Nat->Int->β:=Yi.unc g
def R3:PT (List RV):=pRs [pR true [rD (dX .f64),rD (dI .i64)],wI]
def bv {β:Type}(g:List RV->β):Nat->Nat->Int->Int->β:=R3.unc g
def U7:ah:=ah.sub [1,0,0] (emb Tz)
def C0 (α:Type)(a b c:Int)(k1:Bool->Op α):Op α:=
 iV α a 67108864
 (fun d=>cK (!d)
 (k1 true)
 (iV α b 67108864
 (fun e=>cK (!e)
 (k1 true)
 (kq α c 0 67108864
 (fun g=>k1 (!g))))))
def so:dp:=sld C0
def IG (v:dp)(α:Type)(K:KT α):Int->Int->Int->Nat->Nat->Int->Op α:=fun a b c d e g=>v α a b c (fun h=>ZC (K .normal) h a b c d e g)
theorem aau:∀ (α:Type) (K:KT α),IG so α K=AF.unc fun σ=>aF Pg Ek2 ahI U7 K σ:=bR (fun α K=>by kernel_rfl)
abbrev oh:Type 1:=(α:Type)->Int->Int->Int->(Nat->Nat->Int->Int->Op α)->Op α
def Nv (α:Type)(a b c:Int)(k1:Nat->Nat->Int->Int->Op α):Op α:=
 so α a b c
 (fun d=>cK d
 (k1 0 0 0 8)
 (Fz α a b
 (fun e g=>k1 e g c 0)))
def fT:oh:=sld Nv
def oC:PT (List DV):=pA [pV true [(dI .i64),(dI .i64),(dI .i64)]]
def Mu (v:oh)(α:Type)(k:RT α):Int->Int->Int->Op α:=fun a b c=>v α a b c (fun d e g h=>bv k d e g h)
def agj:ah:=(ah.put (.m [⟨AF,IG so⟩]) [1,0] (emb Tz))
theorem adf:al Pg 182 29 ⟨oC,Mu fT⟩:=iZ ek2 (ag Tryz.func182 (by kernel_rfl)) ahI agj ((aA _ _).trans (aG _)) (bc (by kernel_rfl) (aK Tz) ⟨aau,TT⟩) fun _ _=>by kernel_rfl
def K3:SG:=[(8,iT),(14,iT),(20,iT),(22,iT)]
def apX:TG:=[tT 0 [1,2],tT 1 [2,5],tT 2 [4],tT 3 [18],tT 4 [4],tT 5 [4]]
def CF:au:=aB Pg Tryz.f115 apX aR
def AC:PT St:=pS [sY 1 (dFn 116 []),sP 2] [az 2 [xI,xI]]
def ap7 {β:Type}(g:St->β):Int->Int->β:=AC.unc g
def T7:ah:=ah.sub [1,0,0,0] (emb CF)
def C1 (α:Type)(a b:Int)(k1:Bool->Op α):Op α:=
 yI α a
 (fun c=>cK (!c)
 (k1 true)
 (yI α b
 (fun d=>k1 (!d))))
def sn:bN:=sld C1
def Iu (v:bN)(α:Type)(K:KT α):Int->Int->Op α:=fun a b=>v α a b (fun c=>Bp (K .normal) c a b)
theorem aaR:∀ (α:Type) (K:KT α),Iu sn α K=AC.unc fun σ=>aF Pg Ek2 K3 T7 K σ:=bR (fun α K=>by kernel_rfl)
def KW (α:Type)(a b:Int)(k1:Int->Op α):Op α:=
 sn α a b
 (fun c=>cK c
 (k1 2)
 (cK (decide (b < a))
 (k1 10)
 (k1 0)))
def Aq:dt:=sld KW
def Lm:PT (List DV):=pA [pV true [(dI .i64),(dI .i64)],pV false [(dFn 116 [])]]
def Kw (v:dt)(α:Type)(k:RT α):Int->Int->Op α:=fun a b=>v α a b (fun c=>bu k c)
def adW:ah:=(ah.put (.m [⟨AC,Iu sn⟩]) [1,0,0] (emb CF))
theorem abT:al Pg 115 24 ⟨Lm,Kw Aq⟩:=iZ ek2 (ag Tryz.func115 (by kernel_rfl)) K3 adW ((aA _ _).trans (aG _)) (bc (by kernel_rfl) (aK CF) ⟨aaR,TT⟩) fun _ _=>by kernel_rfl
def AX:PT St:=pS [sY 1 (dFn 117 []),sP 2] [az 2 [xI,xI]]
def ap1 {β:Type}(g:St->β):Int->Int->β:=AX.unc g
def Uy:ah:=ah.sub [1,0,0,0] (emb CF)
def CZ (α:Type)(a b:Int)(k1:Bool->Op α):Op α:=
 zR α a
 (fun c=>cK (!c)
 (k1 true)
 (zR α b
 (fun d=>k1 (!d))))
def tf:bN:=sld CZ
def He (v:bN)(α:Type)(K:KT α):Int->Int->Op α:=fun a b=>v α a b (fun c=>Bp (K .normal) c a b)
theorem Yg:∀ (α:Type) (K:KT α),He tf α K=AX.unc fun σ=>aF Pg Ek2 K3 Uy K σ:=bR (fun α K=>by kernel_rfl)
def Oy (α:Type)(a b:Int)(k1:Int->Op α):Op α:=
 tf α a b
 (fun c=>cK c
 (k1 2)
 (cK (decide (b < a))
 (k1 10)
 (k1 0)))
def yj:dt:=sld Oy
def Pp:PT (List DV):=pA [pV true [(dI .i64),(dI .i64)],pV false [(dFn 117 [])]]
def Ko (v:dt)(α:Type)(k:RT α):Int->Int->Op α:=fun a b=>v α a b (fun c=>bu k c)
def abC:ah:=(ah.put (.m [⟨AX,He tf⟩]) [1,0,0] (emb CF))
theorem af3:al Pg 115 24 ⟨Pp,Ko yj⟩:=iZ ek2 (ag Tryz.func115 (by kernel_rfl)) K3 abC ((aA _ _).trans (aG _)) (bc (by kernel_rfl) (aK CF) ⟨Yg,TT⟩) fun _ _=>by kernel_rfl
def TU:SG:=[(4,iS 9),(9,iT),(14,iS 2),(21,iT),(24,iT),(28,iS 2),(34,iT),(37,iT),(41,iT),(46,iT),(52,iT),(54,iT)]
def anJ:TG:=[tT 0 [1],tT 1 [1,3],tT 2 [2],tT 3 [1,7],tT 4 [2],tT 5 [1,18],tT 6 [2],tT 7 [1,26],tT 8 [2],tT 9 [1,31],tT 10 [2],tT 11 [1,39],tT 12 [2],tT 13 [50],tT 14 [2],tT 15 [2]]
def KO:au:=aB Pg Tryz.f114 anJ aR
def yL:PT St:=pS [sP 1,sY 3 dB] [az 1 (xs 9)]
def aqB {β:Type}(g:St->β):Bool->I9 β:=yL.unc g
def UB:PT St:=pS [sP 1,sY 7 dB] [az 1 (xs 9)]
def Vv {β:Type}(g:St->β):Bool->I9 β:=UB.unc g
def Ax:PT St:=pS [sP 1,sY 31 dB] [az 1 (xs 9)]
def amX {β:Type}(g:St->β):Bool->I9 β:=Ax.unc g
def XA:PT St:=pS [sP 1,sY 39 dB] [az 1 (xs 9)]
def aa3 {β:Type}(g:St->β):Bool->I9 β:=XA.unc g
def Sq:ah:=ah.sub [1,0,0,1,1,1,1,1,1,1,1,1,1,0] (emb KO)
def CQ (α:Type)(a b:Int)(k1:Bool->Op α):Op α:=
 lX α a 0 10000
 (fun c=>cK (!c)
 (k1 true)
 (lX α b 0 10000
 (fun d=>k1 (!d))))
def m9:bN:=sld CQ
def Hu (v:bN)(α:Type)(K:KT α):Bool->I9 (Op α):=fun m c d e g h i j a b=>v α a b (fun l=>aa3 (K .normal) l c d e g h i j a b)
theorem aaJ:∀ (α:Type) (K:KT α),Hu m9 α K=Ax.unc fun σ=>aF Pg Ek2 TU Sq K σ:=bR (fun α K=>by kernel_rfl)
def R5:ah:=ah.sub [1,0,0,1,1,0] (emb KO)
def Dx (α:Type)(a b c:Int)(k1:Bool->Op α):Op α:=
 lX α a 5000 80000
 (fun d=>cK (!d)
 (k1 true)
 (uw α b c 0 9999
 (fun e=>k1 (!e))))
def mU:dp:=sld Dx
def HE (v:dp)(α:Type)(K:KT α):Bool->I9 (Op α):=fun m d e a b c g h i j=>v α a b c (fun l=>Vv (K .normal) l d e a b c g h i j)
theorem YT:∀ (α:Type) (K:KT α),HE mU α K=yL.unc fun σ=>aF Pg Ek2 TU R5 K σ:=bR (fun α K=>by kernel_rfl)
abbrev xH:Type 1:=(α:Type)->Int->Int->Int->Int->Int->Int->Int->Int->Int->(Int->Op α)->Op α
def OW (α:Type)(h i j a b c d e g:Int)(k1:Int->Op α):Op α:=
 yU α h i
 (fun l=>cK (!l)
 (k1 11)
 (mU α j a b
 (fun m=>cK m
 (k1 2)
 (cK (decide (b < a))
 (k1 10)
 (uw α c d 1000 200000
 (fun o=>cK (!o)
 (k1 2)
 (cK (decide (d < c))
 (k1 10)
 (m9 α e g
 (fun p=>cK p
 (k1 2)
 (cK (decide (g < e))
 (k1 24)
 (k1 0)))))))))))
def yE:xH:=sld OW
def MY (v:xH)(α:Type)(k:RT α):I9 (Op α):=fun a b c d e g h i j=>v α a b c d e g h i j (fun l=>bu k l)
def af6:ah:=(ah.put (.m [⟨yL,HE mU⟩]) [1,0,0,1,1] (ah.put (.m [⟨Ax,Hu m9⟩]) [1,0,0,1,1,1,1,1,1,1,1,1,1] (emb KO)))
theorem ac0:al Pg 114 56 ⟨nL,MY yE⟩:=iZ ek2 (ag Tryz.func114 (by kernel_rfl)) TU af6 ((aA _ _).trans ((aA _ _).trans (aG _))) (bc (by kernel_rfl) (bc (by kernel_rfl) (aK KO) ⟨aaJ,TT⟩) ⟨YT,TT⟩) fun _ _=>by kernel_rfl
def at9:SG:=[(4,iS 2),(9,iS 2),(15,iT),(21,iT),(24,iT),(29,iT),(32,iT)]
def aso:TG:=[tT 0 [1],tT 1 [1,18],tT 2 [2],tT 3 [34],tT 4 [2],tT 5 [2]]
def atZ:au:=aB Pg Tryz.f44 aso aR
abbrev Yh:Type 1:=(α:Type)->Int->Int->Int->Int->Int->(Int->Op α)->Op α
def TD (α:Type)(a b c d e:Int)(k1:Int->Op α):Op α:=
 CM α a b 5000 80000
 (fun g=>cK (!g)
 (k1 2)
 (CM α c d 0 1000000
 (fun h=>cK (!h)
 (k1 2)
 (CS α e
 (fun i=>cK (!i)
 (k1 2)
 (cK (decide (b < a))
 (k1 10)
 (cK (decide (d < c))
 (k1 10)
 (k1 0))))))))
def Cx:Yh:=sld TD
def Xh:PT (List DV):=pA [pV true [(dI .i64),(dI .i64),(dI .i64),(dI .i64),(dI .i64)]]
def Wg (v:Yh)(α:Type)(k:RT α):I5 (Op α):=fun a b c d e=>v α a b c d e (fun g=>bu k g)
theorem alE:al Pg 44 35 ⟨Xh,Wg Cx⟩:=iP ek2 atZ (ag Tryz.func44 (by kernel_rfl)) at9 fun _ _=>by kernel_rfl
def aq2:SG:=[(4,iT),(9,iT),(14,iT),(19,iS 2),(25,iT),(28,iT),(31,iS 2),(36,iT),(39,iT),(42,iT),(47,iT),(52,iT),(54,iT)]
def aor:TG:=[tT 0 [1],tT 1 [1,12],tT 2 [2],tT 3 [1,22],tT 4 [2],tT 5 [1,29],tT 6 [2],tT 7 [1,33],tT 8 [2],tT 9 [1,40],tT 10 [2],tT 11 [1,50],tT 12 [2],tT 13 [55],tT 14 [2],tT 15 [2]]
def aoz:au:=aB Pg Tryz.f148 aor aR
def Ls (α:Type)(h i j a b c d e g:Int)(k1:Int->Op α):Op α:=
 EY α h
 (fun l=>cK (!l)
 (k1 11)
 (A5 α i
 (fun m=>cK (!m)
 (k1 11)
 (iq α j 5000 80000
 (fun o=>cK (!o)
 (k1 2)
 (uu α a b 0 9999
 (fun p=>cK (!p)
 (k1 2)
 (cK (decide (b < a))
 (k1 10)
 (uu α c d 1000 200000
 (fun q=>cK (!q)
 (k1 2)
 (cK (decide (d < c))
 (k1 10)
 (iq α e 0 10000
 (fun r=>cK (!r)
 (k1 2)
 (iq α g 0 10000
 (fun s=>cK (!s)
 (k1 2)
 (cK (decide (g < e))
 (k1 24)
 (k1 0)))))))))))))))))
def AD:xH:=sld Ls
def K7 (v:xH)(α:Type)(k:RT α):I9 (Op α):=fun a b c d e g h i j=>v α a b c d e g h i j (fun l=>bu k l)
theorem adY:al Pg 148 56 ⟨nL,K7 AD⟩:=iP ek2 aoz (ag Tryz.func148 (by kernel_rfl)) aq2 fun _ _=>by kernel_rfl
def ahv:SG:=[(6,iS 2),(14,iT),(17,iT),(23,iT),(26,iT),(31,iS 2)]
def api:TG:=[tT 0 [1,2],tT 1 [1,2,4],tT 2 [1,2,4,9],tT 3 [2,3],tT 4 [1,2,5],tT 5 [1,2,5,15],tT 6 [1,2,5],tT 7 [1,2,5,24],tT 8 [2,5],tT 9 [2,3]]
def Xz:au:=aB Pg Tryz.f165 api aR
def yg:PT St:=pS [sP 1,sP 2,sP 5] [az 1 [xI,xI],az 2 [xI,xI],az 5 [xI,xI]]
def aaz {β:Type}(g:St->β):I6 β:=yg.unc g
def SU:PT St:=pS [sP 1,sP 2,sP 5,sY 15 dB] [az 1 [xI,xI],az 2 [xI,xI],az 5 [xI,xI]]
def Yf {β:Type}(g:St->β):Bool->I6 β:=SU.unc g
def QP:PT (List RV):=pRs [pR true [rD (dI .i64),rD (dI .i64)],wI]
def oL {β:Type}(g:List RV->β):Int->Int->Int->β:=QP.unc g
noncomputable abbrev Lk3:List bC:=⟨198,40,[⟨bj,Lj yl⟩]⟩::⟨199,32,[⟨bj,Qc vt⟩]⟩::⟨222,24,[⟨jZ,LB yF⟩]⟩::⟨185,135,[⟨Qs,PW uE⟩]⟩::⟨144,14,[⟨bj,Py m6⟩]⟩::⟨186,12,[⟨jK,Nk Ba⟩]⟩::⟨182,29,[⟨oC,Mu fT⟩]⟩::⟨115,24,[⟨Lm,Kw Aq⟩,⟨Pp,Ko yj⟩]⟩::⟨114,56,[⟨nL,MY yE⟩]⟩::⟨44,35,[⟨Xh,Wg Cx⟩]⟩::⟨148,56,[⟨nL,K7 AD⟩]⟩::⟨139,6,[⟨bD,MK mr⟩]⟩::⟨180,19,[⟨Qx,Nw E0⟩]⟩::⟨122,44,[⟨Mv,KE jl⟩]⟩::Lk2
theorem ak3:bF Lk3 fun c=>bF c.l (al Pg c.f c.nt):=⟨⟨agR,TT⟩,⟨afF,TT⟩,⟨aec,TT⟩,⟨acf,TT⟩,⟨abV,TT⟩,⟨act,TT⟩,⟨adf,TT⟩,⟨abT,af3,TT⟩,⟨ac0,TT⟩,⟨alE,TT⟩,⟨adY,TT⟩,⟨aeR,TT⟩,⟨ad7,TT⟩,⟨aeQ,TT⟩,ak2⟩
def Ek3:aE:=aE.ofIO Lk3 bG io0
theorem ek3:Ek3.Ok Pg:=aE.ofIO_ok aP ak3
def QK:ah:=ah.sub [1,1,1,0] (emb Xz)
def Cp (α:Type)(a:Int)(k1:Int->Op α)(k2:Bool->Op α):Op α:=
 cK (decide (a<=16777216))
 (yl α a
 (fun c=>jc α c 1024
 (fun b=>k1 (if b > 0 then b else 0))))
 (k2 (decide (a<=16777216)))
def tL:oD:=sld Cp
def Ic (v:oD)(α:Type)(K:KT α):I6 (Op α):=fun c a d e h g=>v α a (fun b=>aaz (K .normal) c a d e b g) (fun b=>Yf (K .normal) b c a d e h g)
theorem Xo:∀ (α:Type) (K:KT α),Ic tL α K=yg.unc fun σ=>aF Pg Ek3 ahv QK K σ:=bR (fun α K=>by kernel_rfl)
abbrev Pk:Type 1:=(α:Type)->Int->Int->(Int->Int->Int->Op α)->Op α
def LL (α:Type)(a b:Int)(k1:Int->Int->Int->Op α):Op α:=
 uR α a b 0
 (fun c=>cK (c != 0)
 (k1 0 0 c)
 (tL α b
 (fun d=>cK (decide (a<=16777216))
 (vt α a
 (fun h=>dK α h 1024
 (fun e=>k1 d (if e < 1048576 then e else 1048576) 0)))
 (k1 d 1 0))
 (fun j=>cK (decide (a<=16777216))
 (vt α a
 (fun i=>dK α i 1024
 (fun g=>k1 0 (if g < 1048576 then g else 1048576) 0)))
 (k1 0 1 0))))
def qq:Pk:=sld LL
def Lz (v:Pk)(α:Type)(k:RT α):Int->Int->Op α:=fun a b=>v α a b (fun c d e=>oL k c d e)
def abz:ah:=(ah.put (.m [⟨yg,Ic tL⟩]) [1,1,1] (emb Xz))
theorem abi:al Pg 165 32 ⟨bD,Lz qq⟩:=iZ ek3 (ag Tryz.func165 (by kernel_rfl)) ahv abz ((aA _ _).trans (aG _)) (bc (by kernel_rfl) (aK Xz) ⟨Xo,TT⟩) fun _ _=>by kernel_rfl
def Ga:SG:=[(27,iS 2),(28,iS 2),(34,iS 2),(36,iS 2),(40,iS 2),(41,iS 2)]
def aqp:TG:=[tT 0 [0,2],tT 1 [0,2,3],tT 2 [0,2,4,5],tT 3 [0,2,4,5,6,7],tT 4 [0,2,4,5,6,7,22],tT 5 [0,2,4,5,6,7,8],tT 6 [0,2,4,5,6,7,8,9],tT 7 [0,2,4,5,6,7,8,9,32],tT 8 [0,2,4,5,6,7],tT 9 [0,2,4,5,6,7],tT 10 [2,4,5,39],tT 11 [2],tT 12 [2]]
def apl:TG:=[tT 4 [0,2,4,5,6,7]]
def Nc:au:=aB Pg Tryz.f220 aqp apl
def mj:OT:=tdC (ah.sub [1,1,1,1,0,0] (emb Nc))
def Bw:PT St:=pS [sI 0,sP 2,sP 4,sP 5,sI 6,sI 7] [az 2 [xI,xI],az 4 [xI,xI],az 5 [xI,xI]]
def yr {β:Type}(g:St->β):I9 β:=Bw.unc g
def TW:PT St:=pS [sI 0,sP 2,sP 4,sP 5,sI 6,sI 7,sY 22 dB] [az 2 [xI,xI],az 4 [xI,xI],az 5 [xI,xI]]
def rY {β:Type}(g:St->β):Int->Int->Int->Bool->I6 β:=TW.unc g
def oP:ah:=ah.sub [1,1,1,1,0,0,0] (emb Nc)
def nE (α:Type)(c b a d e g h:Int)(kn:I6 (Op α))(k1:Int->Int->Bool->I4 (Op α)):Op α:=
 cK (c != b)
 (cK (c != a)
 (yF α d e g h
 (fun i j=>cK (decide ((w64 (Int.tdiv (w64 (b+a)) 2))<=c))
 (kn (w64 (Int.tdiv (w64 (b+a)) 2)) a i j g h)
 (kn b (w64 (Int.tdiv (w64 (b+a)) 2)) d e i j)))
 (k1 b a (c != a) d e g h))
 (k1 b a false d e g h)
def lg (α:Type)(a:Int)(k1:Int->Int->Bool->I4 (Op α)):Nat->I6 (Op α)
 | 0,_,_,_,_,_,_=>none
 | n+1,b,c,d,e,g,h=>nE α a b c d e g h (lg α a k1 n) k1
def Df (α:Type)(a:Int)(k1:Int->Int->Bool->I4 (Op α))(b c d e g h:Int):Op α:=lg α a k1 aN b c d e g h
abbrev Dh:Type 1:=(α:Type)->Int->(Int->Int->Bool->I4 (Op α))->I6 (Op α)
def su:Dh:=sld Df
def GJ (v:Dh)(α:Type)(K:KT α):I9 (Op α):=fun a b c d e g h i j=>v α a (fun l m o p q r s=>rY (K (.exit 0)) a l m o d e p q r s) b c g h i j
theorem WB (α:Type)(K:KT α)(Kn:SK α)(a b c i j d e g h:Int):yr (fun σ=>aF Pg Ek3 Ga oP (cX (fun σ=>bW mj σ Kn) K) σ) a b c i j d e g h=nE α a b c d e g h (fun b c d e g h=>yr Kn a b c i j d e g h) (fun l m o p q r s=>rY (K (.exit 0)) a l m o i j p q r s):=by kernel_rfl
theorem aaN (α:Type)(K:KT α):∀ (n:Nat) (a b c i j d e g h:Int),lg α a (fun l m o p q r s=>rY (K (.exit 0)) a l m o i j p q r s) n b c d e g h=yr (aS (aF Pg Ek3 Ga oP) mj K n) a b c i j d e g h:=by
 intro n
 induction n with
 | zero=>intros;rfl
 | succ n ih=>intro a b c i j d e g h;exact (congrArg (fun kn=>nE α a b c d e g h kn (fun l m o p q r s=>rY (K (.exit 0)) a l m o i j p q r s)) (funext fun b=>funext fun c=>funext fun d=>funext fun e=>funext fun g=>funext fun h=>ih a b c i j d e g h)).trans (WB α K (aS (aF Pg Ek3 Ga oP) mj K n) a b c i j d e g h).symm
theorem aa5:∀ (α:Type) (K:KT α),GJ su α K=Bw.unc fun σ=>aS (aF Pg Ek3 Ga oP) mj K aN σ:=bR (fun α K=>funext fun a=>funext fun b=>funext fun c=>funext fun d=>funext fun e=>funext fun g=>funext fun h=>funext fun i=>funext fun j=>aaN α K aN a b c d e g h i j)
abbrev jB:Type 1:=(α:Type)->Int->(Int->Int->Op α)->Op α
def La (α:Type)(a:Int)(k1:Int->Int->Op α):Op α:=
 eF α 2251799813685248
 (fun b=>su α a
 (fun c i j d e g h=>cK (a == c)
 (k1 d e)
 (k1 g h)) 0 524288 67108864 0 b b)
def ik:jB:=sld La
def KQ (v:jB)(α:Type)(k:RT α):Int->Op α:=fun a=>v α a (fun b c=>cN k b c)
def afY:ah:=(ah.put (.m [⟨Bw,GJ su⟩]) [1,1,1,1,0,0] (emb Nc))
theorem afp:al Pg 220 42 ⟨bj,KQ ik⟩:=iZ ek3 (ag Tryz.func220 (by kernel_rfl)) Ga afY ((aA _ _).trans (aG _)) (bK (td:=mj) (by kernel_rfl) (aK Nc) ⟨aa5,TT⟩) fun _ _=>by kernel_rfl
def apV:TG:=[tT 0 [0,1,2],tT 1 [2,7,8],tT 2 [2,7,8,22],tT 3 [6],tT 4 [9,10],tT 5 [9,10,32],tT 6 [6],tT 7 [9,34],tT 8 [9],tT 9 [6]]
def an2:au:=aB Pg Tryz.f176 apV aR
def MO (α:Type)(d e b:Int)(k1:Int->Op α):Op α:=
 uI α (IntKind.wrap .u64 (d)) (IntKind.wrap .u64 (e))
 (fun c g=>cK (decide ((IntKind.wrap .u64 (b))<=c))
 (k1 2147483647)
 (uE α c g (IntKind.wrap .u64 (b))
 (fun a h=>cK (decide (2147483647<=a))
 (k1 2147483647)
 (cK (h != 0)
 (k1 (w64 ((IntKind.wrap .u64 (a+1)))))
 (k1 (w64 (a)))))))
def Bj:xD:=sld MO
def MG (v:xD)(α:Type)(k:RT α):Int->Int->Int->Op α:=fun a b c=>v α a b c (fun d=>bu k d)
theorem acT:al Pg 176 39 ⟨fR,MG Bj⟩:=iP ek3 an2 (ag Tryz.func176 (by kernel_rfl)) br fun _ _=>by kernel_rfl
def aoL:TG:=[tT 0 [0,1,2],tT 1 [0,2,8,9],tT 2 [0,2,8,9,24],tT 3 [6,7],tT 4 [0,2,10,11],tT 5 [0,2,10,11,34],tT 6 [6,7],tT 7 [0,2,6,7,11],tT 8 [0,6,7,54],tT 9 [0,6,7],tT 10 [6,7,58],tT 11 [6,7],tT 12 [6,7]]
def aal:au:=aB Pg Tryz.f143 aoL aR
def As:PT St:=pS [sI 0,sI 2,sI 6,sY 7 dB,sY 11 (dI .u64)] []
def aqf {β:Type}(g:St->β):Int->Int->Int->Bool->Int->β:=As.unc g
def Z1:PT St:=pS [sI 0,sI 6,sY 7 dB,sY 54 dB] []
def XF {β:Type}(g:St->β):Int->Int->Bool->Bool->β:=Z1.unc g
def SA:ah:=ah.sub [1,1,1,1,1,1,0,0] (emb aal)
def C6 (α:Type)(c a b:Int)(k1:Bool->Op α):Op α:=
 cK (decide ((IntKind.wrap .u64 (a)) < (IntKind.wrap .u64 (2*b))))
 (k1 true)
 (cK (decide (0<=c))
 (k1 ((IntKind.wrap .u64 (2*b)) == (IntKind.wrap .u64 (a))))
 (k1 false))
def nG:dp:=sld C6
def GL (v:dp)(α:Type)(K:KT α):Int->Int->Int->Bool->Int->Op α:=fun a b c d e=>v α a b e (fun g=>XF (K .normal) a c d g)
theorem VA:∀ (α:Type) (K:KT α),GL nG α K=As.unc fun σ=>aF Pg Ek3 br SA K σ:=bR (fun α K=>by kernel_rfl)
abbrev OK:Type 1:=(α:Type)->Int->Int->Int->(Int->Bool->Op α)->Op α
def Pa (α:Type)(c g d:Int)(k1:Int->Bool->Op α):Op α:=
 nw α c
 (fun h=>uI α (IntKind.wrap .u64 (h)) (IntKind.wrap .u64 (g))
 (fun e i=>cK (decide ((IntKind.wrap .u64 (d))<=e))
 (k1 2147483647 false)
 (uE α e i (IntKind.wrap .u64 (d))
 (fun a b=>cK (decide (2147483647 < a))
 (k1 2147483647 false)
 (nG α c d b
 (fun j=>cK j
 (cK (decide (c < 0))
 (k1 (w64 (0 - (w64 ((w64 (a))+1)))) (b != 0))
 (k1 (w64 ((w64 (a))+1)) (b != 0)))
 (cK (decide (c < 0))
 (k1 (w64 (0 - (w64 (a)))) (b != 0))
 (k1 (w64 (a)) (b != 0)))))))))
def lC:OK:=sld Pa
def Og (v:OK)(α:Type)(k:RT α):Int->Int->Int->Op α:=fun a b c=>v α a b c (fun d e=>CV k d e)
def afc:ah:=(ah.put (.m [⟨As,GL nG⟩]) [1,1,1,1,1,1,0] (emb aal))
theorem acU:al Pg 143 63 ⟨fR,Og lC⟩:=iZ ek3 (ag Tryz.func143 (by kernel_rfl)) br afc ((aA _ _).trans (aG _)) (bc (by kernel_rfl) (aK aal) ⟨VA,TT⟩) fun _ _=>by kernel_rfl
end
end Go.AM.K
