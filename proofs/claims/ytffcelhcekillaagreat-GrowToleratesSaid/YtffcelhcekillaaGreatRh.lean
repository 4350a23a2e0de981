/- Printed by KGen. -/
import Derived.Test.YtffcelhcekillaaGreatRg
namespace Go.AM.K
open Go.Proofs
set_option maxRecDepth 100000
set_option linter.unusedVariables false
noncomputable section
def avv:SG:=[(17,[.int .i64,.int .i64,.int .i64,.int .i64,.int .i64,.int .i64,.sl,.int .i64,.int .i64]),(30,[.sl]),(58,iT),(65,iT),(67,iT),(71,[.cpx .f64,.int .i64]),(80,[.cpx .f64,.int .i64]),(88,iS 2),(90,iS 2),(93,iT),(95,iT),(98,iT),(101,iT),(103,iT),(106,iT),(117,iS 2),(119,iS 2),(122,iS 6)]
def aBG:TG:=[tT 0 [1,2],tT 1 [1,2,4,5],tT 2 [1,2,4,5,22],tT 3 [2,3],tT 4 [1,2,4,6],tT 5 [1,2,4,6,7],tT 6 [2,4,6,7,8],tT 7 [2,4,6,7,8,9,10],tT 8 [2,4,6,7,9,10,12],tT 9 [2,4,6,7,9,10,12,59],tT 10 [2,3],tT 11 [2,4,6,7,9,10,12,68],tT 12 [2,3],tT 13 [2,4,5,7,9,10,12,13],tT 14 [2,4,5,7,9,10,12,13,76],tT 15 [2,3],tT 16 [2,4,5,9,10,12,13,14],tT 17 [2,4,5,9,10,12,13,14,85],tT 18 [2,3],tT 19 [2,4,9,10,12,13,14],tT 20 [2,4,12,15],tT 21 [2,4,15,111],tT 22 [2,4,15],tT 23 [2,15,115],tT 24 [2,15],tT 25 [2,3]]
def alS:aq:=aw Pg Tryz.f106 aBG aC
def Er:PT St:=pS [sP 2,sl 4 (aV false [(cB 18 0)]),sl 12 (aV false [(cD dB)]),sP 15] [au 2 (xs 6),au 18 [xI,xI,xI,xI,xI,xI,xI,(cD dL),xI,xI],au 15 (xs 6)]
def aDl {β:Type}(g:St->β):Bool->Int->Int->Int->Int->Int->Int->Int->Int->Int->Int->Int->Int->Int->ae->I8 β:=Er.unc g
def aj4:PT St:=pS [sP 2,sl 4 (aV false [(cB 18 0)]),sP 15] [au 2 (xs 6),au 18 [xI,xI,xI,xI,xI,xI,xI,(cD dL),xI,xI],au 15 (xs 6)]
def aki {β:Type}(g:St->β):Int->Int->Int->Int->Int->Int->Int->Int->Int->Int->Int->Int->Int->ae->I8 β:=aj4.unc g
def aiQ:PT St:=pS [sP 2,sl 4 (aV false [(cB 18 0)]),sP 15,sl 111 (aV false [(cD dB)])] [au 2 (xs 6),au 18 [xI,xI,xI,xI,xI,xI,xI,(cD dL),xI,xI],au 15 (xs 6)]
def akM {β:Type}(g:St->β):Bool->Int->Int->Int->Int->Int->Int->Int->Int->Int->Int->Int->Int->Int->ae->I8 β:=aiQ.unc g
def ZW:ag:=ag.sub [1,1,1,1,1,1,1,1,1,1,1,1,1,1,1,1,0] (emb alS)
def GA (α:Type)(a:Bool)(k1:Op α)(k2:Op α):Op α:=
 cK a
 (k1)
 (k2)
def pp:bV:=sld GA
def MX (v:bV)(α:Type)(K:KT α):Bool->Int->Int->Int->Int->Int->Int->Int->Int->Int->Int->Int->Int->Int->ae->I8 (Op α):=fun a b c d e g h i j l m o p q r s t w z C D A B=>v α a (aki (K .normal) b c d e g h i j l m o p q r s t w z 0 0 A B) (akM (K .normal) a b c d e g h i j l m o p q r s t w z C D A B)
theorem aea:∀ (α:Type) (K:KT α),MX pp α K=Er.unc fun σ=>az Pg ats avv ZW K σ:=aZ (fun α K=>by kernel_rfl)
def YP (α:Type)(b e g j l m:Int)(a:ae)(c d:Int)(k1:I7 (Op α)):Op α:=
 JN α b e g j l m a c d
 (fun q=>cK (q != 0)
 (k1 0 0 0 0 0 0 q)
 (yy α 0 b e g j l m a c d false
 (fun z A B C=>yy α C b e g j l m a c d true
 (fun D F G H=>jX α H b e g j a c d (w64 (((List.length a:Nat):Int)+1))
 (fun I J L M=>nH α M I J L
 (fun N O b2 b3 P=>jX α P b e g j a c d 0
 (fun Q R T U=>nH α U Q R T
 (fun r V b4 b5 W=>ss α W b e g a c d (w64 (((List.length a:Nat):Int)+1))
 (fun b6 b7 b8 X s=>cK (s != 0)
 (k1 0 0 0 0 0 0 s)
 (cK (decide (r<=0))
 (k1 0 0 0 0 0 0 9)
 (sB α z A B
 (fun Y Z t=>cK (t != 0)
 (k1 0 0 0 0 0 0 t)
 (sB α D F G
 (fun a0 a1 w=>cK (w != 0)
 (k1 0 0 0 0 0 0 w)
 (ml α N O
 (fun a2 a3=>yx α Y Z
 (fun h i=>jJ α (w64 (a2*a0)) V
 (fun a4=>nd α (w64 (a3*a1)) r
 (fun a5=>yx α a4 a5
 (fun o p=>pp α X
 (oF α b a c d
 (fun a6=>cK a6
 (nS α h i 0 0
 (fun a7 a8=>k1 h i 0 0 a7 a8 0))
 (k1 h i 0 0 0 0 0)))
 (oF α b a c d
 (fun a9=>cK a9
 (nS α h i o p
 (fun b0 b1=>k1 h i o p b0 b1 0))
 (k1 h i o p 0 0 0)))))))))))))))))))))))
def Dh:A3:=sld YP
def Zw (v:A3)(α:Type)(k:RT α):Int->Int->Int->Int->Int->Int->ae->Int->Int->Op α:=fun a b c d e g h i j=>v α a b c d e g h i j (fun l m o p q r s=>GW k l m o p q r s)
def aoe:ag:=(ag.put (.m [⟨Er,MX pp⟩]) [1,1,1,1,1,1,1,1,1,1,1,1,1,1,1,1] (emb alS))
theorem atx:ak Pg 106 123 ⟨eV,Zw Dh⟩:=iZ aET (ah Tryz.func106 (by kernel_rfl)) avv aoe ((an _ _).trans (aA _)) (aM (by kernel_rfl) (aD alS) ⟨aea,trivial⟩) fun _ _=>by kernel_rfl
def M0:SG:=[(11,[.sl]),(19,[.sl,.sl,.int .i64,.int .i64]),(22,[.sl]),(24,iS 9),(25,iS 9),(31,[.bool]),(35,iS 3),(41,[.bool]),(47,[.sl])]
def aKC:TG:=[tT 0 [1,4],tT 1 [1,4,5],tT 2 [1,4,5,6],tT 3 [1,4,5,6,7],tT 4 [1,4,5,6,7,13],tT 6 [1,4,5,6,7,8],tT 7 [1,4,5,6,7,8],tT 8 [1,4,5,6,7,8,31],(9,⟨[2,3,4],true,[],[3]⟩),tT 10 [1,4,5,6,7,8],tT 11 [1,4,5,6,7],tT 5 [1,4,5,6,7],tT 12 [4,5,50],(13,⟨[2,3,4],true,[],[3]⟩),(14,⟨[2,3,4],true,[],[3]⟩)]
def aJn:TG:=[(4,⟨[1,4,5,6,7],true,[⟨false,5,0,20005,1⟩,⟨true,1,0,30100,9⟩,⟨true,1,1,30101,5⟩,⟨true,17,0,31700,1⟩],[]⟩)]
def aaN:aq:=aw Pg Tryz.f37 aKC aJn
def vh:OT:=tdC (ag.sub [1,1,1,0,1,0] (emb aaN))
def zH:PT St:=pS [sP 1,sP 4,sl 5 (aV false [(ej 20005)]),sl 6 (aV false [(cD dB)]),sI 7,sl 8 (aV false [(cB 17 0)])] [au 1 [(cD dL),(cD dL),xI,xI],au 4 (xs 3),ei 20005 1,au 17 [Oy,(cD dB),xI,xI,xI,(cD dB)]]
def aIG {β:Type}(g:St->β):Bool->Int->ae->ae->Int->Int->Int->Int->Int->ae->Bool->Int->Int->Int->Bool->β:=zH.unc g
def atK:PT St:=pS [sP 1,sP 4,sl 5 (aV false [(ej 20005)]),sl 6 (aV false [(cD dB)]),sI 7,sl 8 (aV false [(cB 17 0)])] [au 1 [(cD dL),(cD dL),xI,xI],au 4 (xs 3),ei 20005 1,au 17 [(cD dL),(cD dB),xI,xI,xI,(cD dB)]]
def Vq {β:Type}(g:St->β):Bool->Int->ae->ae->Int->Int->Int->Int->Int->ae->ae->Bool->Int->Int->Int->Bool->β:=atK.unc g
def aoS:PT St:=pS [sP 1,sP 4,sl 5 (aV false [(ej 20005)]),sl 6 (aV false [(cD dB)]),sI 7,sl 8 (aV false [(cB 17 0)])] [au 1 [(cD dL),(cD dL),xI,xI],au 4 (xs 3),ei 20005 1,au 17 [(ej 27),(cD dB),xI,xI,xI,(cD dB)],ei 27 1]
def VP {β:Type}(g:St->β):Bool->Int->ae->ae->Int->Int->Int->Int->Int->ae->Bool->Int->Int->Int->Bool->ae->β:=aoS.unc g
def An:PT St:=pS [sP 1,sP 4,sl 5 (aV false [(ej 20005)]),sl 6 (aV false [(cD dB)]),sI 7,sl 8 (aV false [(cB 17 0)]),sl 31 (aV false [(cD dB)])] [au 1 [(cD dL),(cD dL),xI,xI],au 4 (xs 3),ei 20005 1,au 17 [(cD dL),(cD dB),xI,xI,xI,(cD dB)]]
def aID {β:Type}(g:St->β):Bool->Int->Bool->ae->ae->Int->Int->Int->Int->Int->ae->ae->Bool->Int->Int->Int->Bool->β:=An.unc g
def Av:PT St:=pS [sP 1,sP 4,sl 5 (aV false [(ej 20005)]),sl 6 (aV false [(cD dB)]),sI 7,sl 8 (aV false [(cB 17 0)]),sl 31 (aV false [(cD dB)])] [au 1 [(cD dL),(cD dL),xI,xI],au 4 (xs 3),ei 20005 1,au 17 [(ej 27),(cD dB),xI,xI,xI,(cD dB)],ei 27 1]
def aIE {β:Type}(g:St->β):Bool->Int->Bool->ae->ae->Int->Int->Int->Int->Int->ae->Bool->Int->Int->Int->Bool->ae->β:=Av.unc g
def KD:PT St:=pS [sP 1,sP 4,sl 5 (aV false [(ej 20005)]),sl 6 (aV false [(cD dB)]),sI 7] [au 1 [(cD dL),(cD dL),xI,xI],au 4 (xs 3),ei 20005 1]
def Jj {β:Type}(g:St->β):Bool->Int->ae->ae->Int->Int->Int->Int->Int->ae->β:=KD.unc g
def atq:PT St:=pS [sI 2,sl 3 (aV false [(cD dL)]),sP 4] [au 4 (xs 3)]
def kr {β:Type}(g:St->β):Int->ae->Int->Int->Int->β:=atq.unc g
def ano:PT St:=pS [sP 1,sP 4,sl 5 (aV false [(ej 20005)]),sl 6 (aV false [(cD dB)]),sI 7,sl 13 (aV false [(cD dB)])] [au 1 [(cD dL),(cD dL),xI,xI],au 4 (xs 3),ei 20005 1]
def zL {β:Type}(g:St->β):Bool->Int->Bool->ae->ae->Int->Int->Int->Int->Int->ae->β:=ano.unc g
def aid:PT (List RV):=pRs [wI,pR false [rD dL],pR true [rD (dI .i64),rD (dI .i64),rD (dI .i64)]]
def Mr {β:Type}(g:List RV->β):Int->ae->Int->Int->Int->β:=aid.unc g
def zf:aE:=aE.ofIO (⟨74,109,[⟨ahs,ag5 Ll⟩]⟩::NR) bt io0
theorem axa:zf.Ok Pg:=aE.ofIO_ok aN ⟨⟨awR,trivial⟩,Pi⟩
def N8:ag:=ag.sub [1,1,1,0,1,0,0,1,0,0,1,1,1,0] (emb aaN)
abbrev wq:Type 1:=(α:Type)->Bool->Bool->(Bool->Op α)->Op α
def Ma (α:Type)(a b:Bool)(k1:Bool->Op α):Op α:=
 cK a
 (k1 true)
 (k1 b)
def mB:wq:=sld Ma
def IW (v:wq)(α:Type)(K:KT α):Bool->Int->Bool->ae->ae->Int->Int->Int->Int->Int->ae->ae->Bool->Int->Int->Int->Bool->Op α:=fun b c w d e g h i j l m o p q r s a=>v α b a (fun t=>Vq (K .normal) t c d e g h i j l m o p q r s a)
theorem asu:∀ (α:Type) (K:KT α),IW mB α K=An.unc fun σ=>az Pg zf M0 N8 K σ:=aZ (fun α K=>by kernel_rfl)
def MB (α:Type)(a b:Bool)(k1:Bool->Op α):Op α:=
 cK a
 (k1 true)
 (k1 b)
def mU:wq:=sld MB
def Jk (v:wq)(α:Type)(K:KT α):Bool->Int->Bool->ae->ae->Int->Int->Int->Int->Int->ae->Bool->Int->Int->Int->Bool->ae->Op α:=fun b c w d e g h i j l m o p q r a s=>v α b a (fun t=>VP (K .normal) t c d e g h i j l m o p q r a s)
theorem aur:∀ (α:Type) (K:KT α),Jk mU α K=Av.unc fun σ=>az Pg zf M0 N8 K σ:=aZ (fun α K=>by kernel_rfl)
def al6:ag:=ag.sub [1,1,1,0,1,0,0,1,0,0,1,0] (emb aaN)
abbrev Lh:Type 1:=(α:Type)->Int->ae->ae->Int->Int->Bool->Int->Int->Int->Bool->(Bool->Int->Int->Int->Bool->Op α)->(Bool->Int->Int->Int->Bool->ae->Op α)->Op α
def OK (α:Type)(a:Int)(b c:ae)(d e:Int)(g:Bool)(h i j:Int)(l:Bool)(k1:Bool->Int->Int->Int->Bool->Op α)(k2:Bool->Int->Int->Int->Bool->ae->Op α):Op α:=
 dG b a [.int .i64,.int .i64,.int .i64,.int .i64,.int .i64,.int .i64,.int .i64,.int .i64,.int .i64]
 (fun H I J m o p q L M=>LM α
 (Ll α g h i j l b c d e a p q m o 0
 (fun r s t w z=>k1 r s t w z)
 (fun A B C D F G=>k2 B C D F G A)))
def vB:Lh:=sld OK
def Jy (v:Lh)(α:Type)(K:KT α):Bool->Int->ae->ae->Int->Int->Int->Int->Int->ae->Bool->Int->Int->Int->Bool->Op α:=fun m a b c d e o p q r s t w z A=>v α a b c d e s t w z A (fun g h i j l=>Vq (K .normal) m a b c d e o p q r ([]:ae) g h i j l) (fun g h i j l B=>VP (K .normal) m a b c d e o p q r g h i j l B)
theorem at2:∀ (α:Type) (K:KT α),Jy vB α K=zH.unc fun σ=>az Pg zf M0 al6 K σ:=aZ (fun α K=>by kernel_rfl)
def wj:ag:=ag.sub [1,1,1,0,1,0,0] (ag.put (.m [⟨zH,Jy vB⟩]) [1,1,1,0,1,0,0,1,0,0,1] (ag.put (.m [⟨An,IW mB⟩,⟨Av,Jk mU⟩]) [1,1,1,0,1,0,0,1,0,0,1,1,1] (emb aaN)))
def v6 (α:Type)(c g:ae)(h i:Int)(d:Bool)(a:Int)(b:ae)(kn:Bool->Int->ae->Op α)(k1:Int->Int->Int->Op α)(k2:Bool->Int->Bool->ae->Op α):Op α:=
 cK (decide (a < ((List.length c:Nat):Int)))
 (vB α a c g h i false 0 0 0 false
 (fun j l m o p=>cK j
 (k1 l m o)
 (mB α d p
 (fun q=>gK (cy 1 24 b [[DC.sl ([]:ae)]]) (kn q (w64 (a+1)) (b++[[DC.sl ([]:ae)]])))))
 (fun r s t w z e=>cK r
 (k1 s t w)
 (mU α d z
 (fun A=>gK (cy 1 24 b [[DC.sl e]]) (kn A (w64 (a+1)) (b++[[DC.sl e]]))))))
 (k2 d a (decide (a < ((List.length c:Nat):Int))) b)
def mZ (α:Type)(a b:ae)(c d:Int)(k1:Int->Int->Int->Op α)(k2:Bool->Int->Bool->ae->Op α):Nat->Bool->Int->ae->Op α
 | 0,_,_,_=>none
 | n+1,e,g,h=>v6 α a b c d e g h (mZ α a b c d k1 k2 n) k1 k2
def Mn (α:Type)(a b:ae)(c d:Int)(k1:Int->Int->Int->Op α)(k2:Bool->Int->Bool->ae->Op α)(e:Bool)(g:Int)(h:ae):Op α:=mZ α a b c d k1 k2 aF e g h
abbrev Mq:Type 1:=(α:Type)->ae->ae->Int->Int->(Int->Int->Int->Op α)->(Bool->Int->Bool->ae->Op α)->Bool->Int->ae->Op α
def z9:Mq:=sld Mn
def WW (v:Mq)(α:Type)(K:KT α):Bool->Int->ae->ae->Int->Int->Int->Int->Int->ae->Op α:=fun i j d e g h l m o p=>v α d e g h (fun a b c=>kr (K .ret) 0 ([]:ae) a b c) (fun a b c q=>zL (K (.exit 0)) a b c d e g h l m o q) i j p
theorem asO (α:Type)(K:KT α)(Kn:SK α)(a:Bool)(b:Int)(c d:ae)(e g i j l:Int)(h:ae):Jj (fun σ=>az Pg zf M0 wj (bK (fun σ=>bq vh σ Kn) K) σ) a b c d e g i j l h=v6 α c d e g a b h (fun a b h=>Jj Kn a b c d e g i j l h) (fun m o p=>kr (K .ret) 0 ([]:ae) m o p) (fun m o p q=>zL (K (.exit 0)) m o p c d e g i j l q):=by kernel_rfl
theorem anC (α:Type)(K:KT α):∀ (n:Nat) (e:Bool) (g:Int) (a b:ae) (c d m o p:Int) (h:ae),mZ α a b c d (fun i j l=>kr (K .ret) 0 ([]:ae) i j l) (fun i j l q=>zL (K (.exit 0)) i j l a b c d m o p q) n e g h=Jj (aJ (az Pg zf M0 wj) vh K n) e g a b c d m o p h:=by
 intro n
 induction n with
 | zero=>intros;rfl
 | succ n ih=>intro e g a b c d m o p h;exact (congrArg (fun kn=>v6 α a b c d e g h kn (fun i j l=>kr (K .ret) 0 ([]:ae) i j l) (fun i j l q=>zL (K (.exit 0)) i j l a b c d m o p q)) (funext fun e=>funext fun g=>funext fun h=>ih e g a b c d m o p h)).trans (asO α K (aJ (az Pg zf M0 wj) vh K n) e g a b c d m o p h).symm
theorem aqg:∀ (α:Type) (K:KT α),WW z9 α K=KD.unc fun σ=>aJ (az Pg zf M0 wj) vh K aF σ:=aZ (fun α K=>funext fun a=>funext fun b=>funext fun c=>funext fun d=>funext fun e=>funext fun g=>funext fun h=>funext fun i=>funext fun j=>funext fun l=>anC α K aF a b c d e g h i j l)
abbrev H3:Type 1:=(α:Type)->ae->ae->Int->Int->(Int->ae->Int->Int->Int->Op α)->Op α
def adL (α:Type)(a b:ae)(c d:Int)(k1:Int->ae->Int->Int->Int->Op α):Op α:=
 z9 α a b c d
 (fun e g h=>k1 0 ([]:ae) e g h)
 (fun i l m j=>cK i
 (k1 1 ([]:ae) 0 0 0)
 (k1 2 j 0 0 0)) false 0 ([]:ae)
def Fg:H3:=sld adL
def ahp (v:H3)(α:Type)(k:RT α):ae->ae->Int->Int->Op α:=fun a b c d=>v α a b c d (fun e g h i j=>Mr k e g h i j)
def azp:ag:=(ag.put (.m [⟨KD,WW z9⟩]) [1,1,1,0,1,0] (ag.put (.m [⟨zH,Jy vB⟩]) [1,1,1,0,1,0,0,1,0,0,1] (ag.put (.m [⟨An,IW mB⟩,⟨Av,Jk mU⟩]) [1,1,1,0,1,0,0,1,0,0,1,1,1] (emb aaN))))
theorem azN:ak Pg 37 54 ⟨kX,ahp Fg⟩:=iZ axa (ah Tryz.func37 (by kernel_rfl)) M0 azp ((an _ _).trans ((an _ _).trans ((an _ _).trans (aA _)))) (aY (td:=vh) (by kernel_rfl) (aM (by kernel_rfl) (aM (by kernel_rfl) (aD aaN) ⟨asu,aur,trivial⟩) ⟨at2,trivial⟩) ⟨aqg,trivial⟩) fun _ _=>by kernel_rfl
def aKE:SG:=[(10,[.sl,.sl,.int .i64,.int .i64]),(12,iS 9),(13,iS 4),(23,iS 2),(25,iS 2),(27,iS 2),(31,iT)]
def aKY:TG:=[tT 0 [2,3,4],tT 1 [2,4,6,7],tT 2 [2,4,6,7,19],tT 3 [4,5],tT 4 [4,5]]
def aKW:aq:=aw Pg Tryz.f82 aKY aC
noncomputable abbrev awo:List bA:=⟨106,123,[⟨eV,Zw Dh⟩]⟩::⟨37,54,[⟨kX,ahp Fg⟩]⟩::NR
theorem aAK:bG awo fun c=>bG c.l (ak Pg c.f c.nt):=⟨⟨atx,trivial⟩,⟨azN,trivial⟩,Pi⟩
def aIP:aE:=aE.ofIO awo bt io0
theorem aFV:aIP.Ok Pg:=aE.ofIO_ok aN aAK
def aig (α:Type)(c:ae)(d e a g h i j l m:Int)(k1:Int->Int->Int->Op α):Op α:=
 F4 α
 (Dh α h l m g i j c d e
 (fun o p q r s t b=>cK (b != 0)
 (k1 0 0 b)
 (cK (a == 2)
 (k1 s t 0)
 (cK (a == 1)
 (k1 q r 0)
 (cK (a == 0)
 (k1 o p 0)
 (none))))))
def LL:Ae:=sld aig
def Kk:PT (List DV):=pA [pV true [dL,dL,(dI .i64),(dI .i64),(dI .i64),(dI .i64),(dI .i64),(dI .i64),(dI .i64),(dI .i64),(dI .i64),(dI .i64),(dI .i64)],pV true [(dI .i64),(dI .i64),(dI .i64),(dI .i64)]]
def ahv (v:Ae)(α:Type)(k:RT α):ae->ae->I15 (Op α):=fun q a b c d e g r s t w z A h i j l=>v α a b c d e g h i j l (fun m o p=>jd k m o p)
theorem ay1:ak Pg 82 33 ⟨Kk,ahv LL⟩:=iP aFV aKW (ah Tryz.func82 (by kernel_rfl)) aKE fun _ _=>by kernel_rfl
def aI8:SG:=[(14,[.sl,.sl,.int .i64,.sl,.int .i64,.int .i64]),(23,[.sl]),(26,iS 2),(29,[.sl,.sl,.int .i64,.int .i64]),(38,[.sl,.sl,.int .i64,.int .i64]),(44,iS 3)]
def aJ7:TG:=[tT 0 [1,3],tT 1 [1,3,5,6],tT 2 [1,3,5,6,19],tT 3 [2,3,4],tT 4 [3,7],tT 5 [3,7,9],tT 6 [3,7,9,34],tT 7 [2,3,4],tT 8 [3,10,12],tT 9 [2,3,4]]
def aIQ:aq:=aw Pg Tryz.f13 aJ7 aC
def ahZ:PT (List RV):=pRs [wI,pR true [rD (dI .i64),rD (dI .i64),rD (dI .i64)],wI]
def M6 {β:Type}(g:List RV->β):I5 β:=ahZ.unc g
abbrev Kz:Type 1:=(α:Type)->ae->ae->Int->ae->Int->Int->(I5 (Op α))->Op α
def aeY (α:Type)(h i:ae)(j:Int)(a:ae)(b c:Int)(k1:I5 (Op α)):Op α:=
 HP α h i j
 (fun d e=>cK (e != 0)
 (k1 0 0 0 0 e)
 (NG α a d b c
 (fun q g=>cK (g != 0)
 (k1 0 0 0 0 g)
 (Fg α a d b c
 (fun l r m o p=>k1 l m o p 0)))))
def Oq:Kz:=sld aeY
def ah6 (v:Kz)(α:Type)(k:RT α):ae->ae->Int->ae->Int->Int->Op α:=fun a b c d e g=>v α a b c d e g (fun h i j l m=>M6 k h i j l m)
theorem azD:ak Pg 13 45 ⟨eM,ah6 Oq⟩:=iP aFV aIQ (ah Tryz.func13 (by kernel_rfl)) aI8 fun _ _=>by kernel_rfl
def aC6:SG:=[(12,[.sl,.sl,.int .i64,.int .i64,.int .i64,.int .i64,.int .i64,.int .i64,.int .i64,.int .i64,.int .i64,.int .i64,.int .i64]),(13,iS 4),(18,iT),(21,iT),(25,iT),(29,iT)]
def aJ2:TG:=[tT 0 [2,3],tT 1 [2,5,6],tT 2 [6,7,8,9,10],tT 3 [7,8,9,10,31],tT 4 [4],tT 5 [7,8,9,10,34],tT 6 [4],tT 7 [43],tT 8 [4],tT 9 [4]]
def azv:aq:=aw Pg Tryz.f42 aJ2 aC
def JJ:PT St:=pS [sI 7,sI 8,sI 9,sI 10,sl 31 (aV false [(cD dB)])] []
def aIs {β:Type}(g:St->β):Int->Int->Int->Int->Bool->β:=JJ.unc g
def auC:PT St:=pS [sI 7,sI 8,sI 9,sI 10,sl 34 (aV false [(cD dB)])] []
def as0 {β:Type}(g:St->β):Int->Int->Int->Int->Bool->β:=auC.unc g
noncomputable abbrev ayN:List bA:=⟨82,33,[⟨Kk,ahv LL⟩]⟩::⟨13,45,[⟨eM,ah6 Oq⟩]⟩::awo
theorem aFS:bG ayN fun c=>bG c.l (ak Pg c.f c.nt):=⟨⟨ay1,trivial⟩,⟨azD,trivial⟩,aAK⟩
def aBl:aE:=aE.ofIO ayN bt io0
theorem aGJ:aBl.Ok Pg:=aE.ofIO_ok aN aFS
def acF:ag:=ag.sub [1,1,1,0,0,1,1,0] (emb azv)
def LF (α:Type)(a b c d:Int)(k1:Bool->Op α):Op α:=
 cK (decide (c<=a))
 (k1 (decide (b<=d)))
 (k1 false)
def ub:fV:=sld LF
def XK (v:fV)(α:Type)(K:KT α):I4 (Bool->Op α):=fun a b c d g=>v α a b c d (fun e=>as0 (K .normal) a b c d e)
theorem ark:∀ (α:Type) (K:KT α),XK ub α K=JJ.unc fun σ=>az Pg aBl aC6 acF K σ:=aZ (fun α K=>by kernel_rfl)
def aeB (α:Type)(e:ae)(g h i j l a b m o p q:Int)(k1:Int->Op α):Op α:=
 LL α e g h i j l m o p q
 (fun c d r=>cK (r != 0)
 (k1 1)
 (ub α (w64 (c*10000)) (w64 (d*10000)) (w64 (a*1048576)) (w64 (b*1048576))
 (fun s=>cK s
 (k1 2)
 (cK (decide ((w64 (d*10000)) < (w64 (a*1048576))))
 (k1 0)
 (cK (decide ((w64 (b*1048576)) < (w64 (c*10000))))
 (k1 0)
 (k1 1))))))
def gl:zW:=sld aeB
def alw (v:zW)(α:Type)(k:RT α):ae->ae->I15 (Op α):=fun q a b c d e g r s t w h i j l m o=>v α a b c d e g h i j l m o (fun p=>aR k p)
def azd:ag:=(ag.put (.m [⟨JJ,XK ub⟩]) [1,1,1,0,0,1,1] (emb azv))
theorem awI:ak Pg 42 52 ⟨Kk,alw gl⟩:=iZ aGJ (ah Tryz.func42 (by kernel_rfl)) aC6 azd ((an _ _).trans (aA _)) (aM (by kernel_rfl) (aD azv) ⟨ark,trivial⟩) fun _ _=>by kernel_rfl
def aCL:SG:=[(7,[.sl,.sl,.int .i64,.sl,.int .i64,.int .i64])]
def aJ5:TG:=[tT 0 [1],tT 1 [3,5],tT 2 [2]]
def aIH:aq:=aw Pg Tryz.f34 aJ5 aC
abbrev JO:Type 1:=(α:Type)->ae->ae->Int->ae->Int->Int->(Bool->Op α)->Op α
def ajO (α:Type)(a b:ae)(c:Int)(d:ae)(e g:Int)(k1:Bool->Op α):Op α:=
 Oq α a b c d e g
 (fun h j l m i=>cK (i == 0)
 (k1 (h == 2))
 (k1 false))
def N2:JO:=sld ajO
def ajA (v:JO)(α:Type)(k:RT α):ae->ae->Int->ae->Int->Int->Op α:=fun a b c d e g=>v α a b c d e g (fun h=>bi k h)
theorem ax2:ak Pg 34 18 ⟨eM,ajA N2⟩:=iP aGJ aIH (ah Tryz.func34 (by kernel_rfl)) aCL fun _ _=>by kernel_rfl
def zr:SG:=[(14,[.sl,.sl,.int .i64,.int .i64,.int .i64,.int .i64,.int .i64,.int .i64,.int .i64,.int .i64,.int .i64,.int .i64,.int .i64]),(15,iS 4),(22,[.sl]),(28,iS 2),(31,iS 2),(37,[.sl,.sl,.int .i64,.int .i64,.int .i64,.int .i64,.int .i64,.int .i64,.int .i64,.int .i64,.int .i64,.int .i64,.int .i64]),(39,iT),(41,iT),(48,iS 4),(63,[.sl]),(70,iS 4),(77,iS 4),(84,iS 4)]
def aLs:TG:=[tT 0 [0,2,4],tT 1 [0,2,4,17],tT 2 [0],tT 3 [0,6],tT 4 [0,2,4,7],tT 5 [0,2,4,7,44],tT 6 [0],tT 7 [0,6],tT 8 [0,2,4,8],tT 9 [0,2,4,8,55],tT 10 [0],tT 11 [0,6],tT 12 [0,2,4,8],tT 13 [0,2,9],tT 14 [0,6]]
def nl:aq:=aw Pg Tryz.f96 aLs aC
def gH:PT St:=pSv [(0,500000000,0)] [sl 0 (aV false [(cB 500000000 0)]),sI 2,sP 4,sI 8] [au 500000000 [(cD dL),(cD dL),xI,xI,xI,xI,xI,xI,xI,xI,xI,xI,xI,(ej 500000014),(cD dNP),(cD dB)],ei 500000014 1,au 4 (xs 4)]
def aIw {β:Type}(g:St->β):Int->Int->ae->ae->Int->Int->Int->Int->Int->Int->Int->Int->Int->Int->Int->Bool->ae->I4 β:=gH.unc g
def at5:PT St:=pSv [(0,500000000,0)] [sl 0 (aV false [(cB 500000000 0)]),sI 2,sP 4,sI 8,sl 55 (aV false [(cD dB)])] [au 500000000 [(cD dL),(cD dL),xI,xI,xI,xI,xI,xI,xI,xI,xI,xI,xI,(ej 500000014),(cD dNP),(cD dB)],ei 500000014 1,au 4 (xs 4)]
def vd {β:Type}(g:St->β):Int->Int->Bool->ae->ae->Int->Int->Int->Int->Int->Int->Int->Int->Int->Int->Int->Bool->ae->I4 β:=at5.unc g
def ad6:PT (List RV):=pRs [pR false [rD dB],pR true [rD dL,rD dL,rD (dI .i64),rD (dI .i64),rD (dI .i64),rD (dI .i64),rD (dI .i64),rD (dI .i64),rD (dI .i64),rD (dI .i64),rD (dI .i64),rD (dI .i64),rD (dI .i64),rO 1,rD dNP,rD dB]]
def lO {β:Type}(g:List RV->β):Bool->ae->ae->Int->Int->Int->Int->Int->Int->Int->Int->Int->Int->Int->ae->Bool->β:=ad6.unc g
def alo:PT (List RV):=pRs [pR false [rD dB],pR true [rD dL,rD dL,rD (dI .i64),rD (dI .i64),rD (dI .i64),rD (dI .i64),rD (dI .i64),rD (dI .i64),rD (dI .i64),rD (dI .i64),rD (dI .i64),rD (dI .i64),rD (dI .i64),rO 1,rD (dP [(dI .i64),(dI .i64)] 0),rD dB]]
def ma {β:Type}(g:List RV->β):Bool->ae->ae->Int->Int->Int->Int->Int->Int->Int->Int->Int->Int->Int->ae->Int->Int->Bool->β:=alo.unc g
noncomputable abbrev azr:List bA:=⟨42,52,[⟨Kk,alw gl⟩]⟩::⟨34,18,[⟨eM,ajA N2⟩]⟩::ayN
theorem aFD:bG azr fun c=>bG c.l (ak Pg c.f c.nt):=⟨⟨awI,trivial⟩,⟨ax2,trivial⟩,aFS⟩
def aEU:aE:=aE.ofIO azr bt io0
theorem aKl:aEU.Ok Pg:=aE.ofIO_ok aN aFD
def agl:ag:=ag.sub [1,1,1,1,0,0] (emb nl)
def Nj (α:Type)(a b:Int)(k1:Bool->Op α):Op α:=
 cK (a == 5)
 (k1 true)
 (k1 (b == 0))
def vg:bI:=sld Nj
def Wb (v:bI)(α:Type)(K:KT α):Int->Int->ae->ae->Int->Int->Int->Int->Int->Int->Int->Int->Int->Int->Int->Bool->ae->I4 (Op α):=fun a b c d e g h i j l m o p q r s t w z A B=>v α a b (fun C=>vd (K .normal) a b C c d e g h i j l m o p q r s t w z A B)
theorem apf:∀ (α:Type) (K:KT α),Wb vg α K=gH.unc fun σ=>az Pg aEU zr agl K σ:=aZ (fun α K=>by kernel_rfl)
abbrev O1:Type 1:=(α:Type)->ae->Int->Int->Int->Int->Int->Int->Int->ae->Bool->Int->Int->Int->Int->Int->(ae->Bool->Op α)->(Int->Int->Op α)->Op α
def aiO (α:Type)(j:ae)(l m o p q r s:Int)(a:ae)(t:Bool)(b c d e w:Int)(k1:ae->Bool->Op α)(k2:Int->Int->Op α):Op α:=
 gl α j l m o p q r s b c d e
 (fun z=>cK (z == 2)
 (gK (cy 1 8 a [[DC.v (.int .i64 0)]]) (k1 (a++[[DC.v (.int .i64 0)]]) t))
 (ep α b c
 (fun g=>ep α d e
 (fun h=>oz α
 (gl α j l m o p q r s g g h h
 (fun A=>cK (A == 0)
 (k2 g h)
 (jt α b c d e
 (fun i=>vg α w i
 (fun B=>cK B
 (k1 a true)
 (gK (cy 1 8 a [[DC.v (.int .i64 i)]]) (jP α b c d e i
 (fun C D F G H=>none))))))))))))
def DO:O1:=sld aiO
def kJ:PT (List DV):=pA [pV false [(dMr [dL,dL,(dI .i64),(dI .i64),(dI .i64),(dI .i64),(dI .i64),(dI .i64),(dI .i64),(dI .i64),(dI .i64),(dI .i64),(dI .i64),(dOs 1),dNP,dB] 0)],pV true [(dI .i64),(dI .i64),(dI .i64),(dI .i64)],vI]
def ajq (v:O1)(α:Type)(k:RT α):ae->ae->Int->Int->Int->Int->Int->Int->Int->Int->Int->Int->Int->ae->Bool->I5 (Op α):=fun m a b c d e g o p q r h i s t w z A B C=>v α a b c d e g h i s t w z A B C (fun j l=>lO k true m a b c d e g o p q r h i j l) (fun j l=>ma k false m a b c d e g o p q r h i s j l t)
def axS:ag:=(ag.put (.m [⟨gH,Wb vg⟩]) [1,1,1,1,0] (emb nl))
theorem awW:ak Pg 96 89 ⟨kJ,ajq DO⟩:=iZ aKl (ah Tryz.func96 (by kernel_rfl)) zr axS ((an _ _).trans (aA _)) (aM (by kernel_rfl) (aD nl) ⟨apf,trivial⟩) fun _ _=>by kernel_rfl
noncomputable abbrev Lg:List bA:=⟨96,89,[⟨kJ,ajq DO⟩]⟩::azr
theorem PD:bG Lg fun c=>bG c.l (ak Pg c.f c.nt):=⟨⟨awW,trivial⟩,aFD⟩
def Z1:aE:=aE.ofIO Lg bt io0
theorem aCC:Z1.Ok Pg:=aE.ofIO_ok aN PD
def ajK:ag:=ag.sub [1,1,1,1,0,0] (emb nl)
def MF (α:Type)(a b:Int)(k1:Bool->Op α):Op α:=
 cK (a == 5)
 (k1 true)
 (k1 (b == 0))
def ug:bI:=sld MF
def XX (v:bI)(α:Type)(K:KT α):Int->Int->ae->ae->Int->Int->Int->Int->Int->Int->Int->Int->Int->Int->Int->Bool->ae->I4 (Op α):=fun a b c d e g h i j l m o p q r s t w z A B=>v α a b (fun C=>vd (K .normal) a b C c d e g h i j l m o p q r s t w z A B)
theorem an5:∀ (α:Type) (K:KT α),XX ug α K=gH.unc fun σ=>az Pg Z1 zr ajK K σ:=aZ (fun α K=>by kernel_rfl)
abbrev nK:Type 1:=(α:Type)->ae->Int->Int->Int->Int->Int->Int->Int->ae->Bool->Int->Int->Int->Int->Int->(ae->Bool->Op α)->(ae->Int->Int->Bool->Op α)->Op α
def axB (α:Type)(h:ae)(i j l m o p q:Int)(a:ae)(r:Bool)(b c d e s:Int)(k1:ae->Bool->Op α)(k2:ae->Int->Int->Bool->Op α):Op α:=
 gl α h i j l m o p q b c d e
 (fun B=>cK (B == 2)
 (gK (cy 1 8 a [[DC.v (.int .i64 0)]]) (k1 (a++[[DC.v (.int .i64 0)]]) r))
 (ep α b c
 (fun t=>ep α d e
 (fun w=>oz α
 (gl α h i j l m o p q t t w w
 (fun C=>cK (C == 0)
 (k2 a t w r)
 (jt α b c d e
 (fun g=>ug α s g
 (fun D=>cK D
 (k1 a true)
 (gK (cy 1 8 a [[DC.v (.int .i64 g)]]) (jP α b c d e g
 (fun F G H I Q=>DO α h i j l m o p q (a++[[DC.v (.int .i64 g)]]) r b F d G (w64 (s+1))
 (fun z A=>DO α h i j l m o p q z A H c I e (w64 (s+1))
 (fun J L=>k1 J L)
 (fun M N=>k2 z M N A))
 (fun O P=>k2 (a++[[DC.v (.int .i64 g)]]) O P r)))))))))))))
def Bf:nK:=sld axB
def ace (v:nK)(α:Type)(k:RT α):ae->ae->Int->Int->Int->Int->Int->Int->Int->Int->Int->Int->Int->ae->Bool->I5 (Op α):=fun m a b c d e g o p q r h i s t w z A B C=>v α a b c d e g h i s t w z A B C (fun j l=>lO k true m a b c d e g o p q r h i j l) (fun j l D F=>ma k false m a b c d e g o p q r h i j l D F)
def ayg:ag:=(ag.put (.m [⟨gH,XX ug⟩]) [1,1,1,1,0] (emb nl))
theorem azY:ak Pg 96 89 ⟨kJ,ace Bf⟩:=iZ aCC (ah Tryz.func96 (by kernel_rfl)) zr ayg ((an _ _).trans (aA _)) (aM (by kernel_rfl) (aD nl) ⟨an5,trivial⟩) fun _ _=>by kernel_rfl
def awe:aE:=aE.ofIO (⟨96,89,[⟨kJ,ace Bf⟩]⟩::Lg) bt io0
theorem axv:awe.Ok Pg:=aE.ofIO_ok aN ⟨⟨azY,trivial⟩,PD⟩
def alR:ag:=ag.sub [1,1,1,1,0,0] (emb nl)
def Lc (α:Type)(a b:Int)(k1:Bool->Op α):Op α:=
 cK (a == 5)
 (k1 true)
 (k1 (b == 0))
def tf:bI:=sld Lc
def ZA (v:bI)(α:Type)(K:KT α):Int->Int->ae->ae->Int->Int->Int->Int->Int->Int->Int->Int->Int->Int->Int->Bool->ae->I4 (Op α):=fun a b c d e g h i j l m o p q r s t w z A B=>v α a b (fun C=>vd (K .normal) a b C c d e g h i j l m o p q r s t w z A B)
theorem aoh:∀ (α:Type) (K:KT α),ZA tf α K=gH.unc fun σ=>az Pg awe zr alR K σ:=aZ (fun α K=>by kernel_rfl)
def axE (α:Type)(g:ae)(h i j l m o p:Int)(a:ae)(r:Bool)(b c d e s:Int)(k1:ae->Bool->Op α)(k2:ae->Int->Int->Bool->Op α):Op α:=
 gl α g h i j l m o p b c d e
 (fun z=>cK (z == 2)
 (gK (cy 1 8 a [[DC.v (.int .i64 0)]]) (k1 (a++[[DC.v (.int .i64 0)]]) r))
 (ep α b c
 (fun t=>ep α d e
 (fun w=>oz α
 (gl α g h i j l m o p t t w w
 (fun A=>cK (A == 0)
 (k2 a t w r)
 (jt α b c d e
 (fun q=>tf α s q
 (fun B=>cK B
 (k1 a true)
 (gK (cy 1 8 a [[DC.v (.int .i64 q)]]) (jP α b c d e q
 (fun C D F G V=>Bf α g h i j l m o p (a++[[DC.v (.int .i64 q)]]) r b C d D (w64 (s+1))
 (fun H I=>Bf α g h i j l m o p H I F c G e (w64 (s+1))
 (fun J L=>k1 J L)
 (fun M N O P=>k2 M N O P))
 (fun Q R T U=>k2 Q R T U)))))))))))))
def Bb:nK:=sld axE
def agM (v:nK)(α:Type)(k:RT α):ae->ae->Int->Int->Int->Int->Int->Int->Int->Int->Int->Int->Int->ae->Bool->I5 (Op α):=fun m a b c d e g o p q r h i s t w z A B C=>v α a b c d e g h i s t w z A B C (fun j l=>lO k true m a b c d e g o p q r h i j l) (fun j l D F=>ma k false m a b c d e g o p q r h i j l D F)
def axF:ag:=(ag.put (.m [⟨gH,ZA tf⟩]) [1,1,1,1,0] (emb nl))
theorem azT:ak Pg 96 89 ⟨kJ,agM Bb⟩:=iZ axv (ah Tryz.func96 (by kernel_rfl)) zr axF ((an _ _).trans (aA _)) (aM (by kernel_rfl) (aD nl) ⟨aoh,trivial⟩) fun _ _=>by kernel_rfl
def avT:aE:=aE.ofIO (⟨96,89,[⟨kJ,agM Bb⟩]⟩::Lg) bt io0
theorem az3:avT.Ok Pg:=aE.ofIO_ok aN ⟨⟨azT,trivial⟩,PD⟩
def aiq:ag:=ag.sub [1,1,1,1,0,0] (emb nl)
def NB (α:Type)(a b:Int)(k1:Bool->Op α):Op α:=
 cK (a == 5)
 (k1 true)
 (k1 (b == 0))
def vR:bI:=sld NB
def RR (v:bI)(α:Type)(K:KT α):Int->Int->ae->ae->Int->Int->Int->Int->Int->Int->Int->Int->Int->Int->Int->Bool->ae->I4 (Op α):=fun a b c d e g h i j l m o p q r s t w z A B=>v α a b (fun C=>vd (K .normal) a b C c d e g h i j l m o p q r s t w z A B)
theorem amV:∀ (α:Type) (K:KT α),RR vR α K=gH.unc fun σ=>az Pg avT zr aiq K σ:=aZ (fun α K=>by kernel_rfl)
def aws (α:Type)(g:ae)(h i j l m o p:Int)(a:ae)(r:Bool)(b c d e s:Int)(k1:ae->Bool->Op α)(k2:ae->Int->Int->Bool->Op α):Op α:=
 gl α g h i j l m o p b c d e
 (fun z=>cK (z == 2)
 (gK (cy 1 8 a [[DC.v (.int .i64 0)]]) (k1 (a++[[DC.v (.int .i64 0)]]) r))
 (ep α b c
 (fun t=>ep α d e
 (fun w=>oz α
 (gl α g h i j l m o p t t w w
 (fun A=>cK (A == 0)
 (k2 a t w r)
 (jt α b c d e
 (fun q=>vR α s q
 (fun B=>cK B
 (k1 a true)
 (gK (cy 1 8 a [[DC.v (.int .i64 q)]]) (jP α b c d e q
 (fun C D F G V=>Bb α g h i j l m o p (a++[[DC.v (.int .i64 q)]]) r b C d D (w64 (s+1))
 (fun H I=>Bb α g h i j l m o p H I F c G e (w64 (s+1))
 (fun J L=>k1 J L)
 (fun M N O P=>k2 M N O P))
 (fun Q R T U=>k2 Q R T U)))))))))))))
def By:nK:=sld aws
def aec (v:nK)(α:Type)(k:RT α):ae->ae->Int->Int->Int->Int->Int->Int->Int->Int->Int->Int->Int->ae->Bool->I5 (Op α):=fun m a b c d e g o p q r h i s t w z A B C=>v α a b c d e g h i s t w z A B C (fun j l=>lO k true m a b c d e g o p q r h i j l) (fun j l D F=>ma k false m a b c d e g o p q r h i j l D F)
def azy:ag:=(ag.put (.m [⟨gH,RR vR⟩]) [1,1,1,1,0] (emb nl))
theorem awx:ak Pg 96 89 ⟨kJ,aec By⟩:=iZ az3 (ah Tryz.func96 (by kernel_rfl)) zr azy ((an _ _).trans (aA _)) (aM (by kernel_rfl) (aD nl) ⟨amV,trivial⟩) fun _ _=>by kernel_rfl
def avS:aE:=aE.ofIO (⟨96,89,[⟨kJ,aec By⟩]⟩::Lg) bt io0
theorem axO:avS.Ok Pg:=aE.ofIO_ok aN ⟨⟨awx,trivial⟩,PD⟩
def akE:ag:=ag.sub [1,1,1,1,0,0] (emb nl)
def Nw (α:Type)(a b:Int)(k1:Bool->Op α):Op α:=
 cK (a == 5)
 (k1 true)
 (k1 (b == 0))
def vG:bI:=sld Nw
def TN (v:bI)(α:Type)(K:KT α):Int->Int->ae->ae->Int->Int->Int->Int->Int->Int->Int->Int->Int->Int->Int->Bool->ae->I4 (Op α):=fun a b c d e g h i j l m o p q r s t w z A B=>v α a b (fun C=>vd (K .normal) a b C c d e g h i j l m o p q r s t w z A B)
theorem aqW:∀ (α:Type) (K:KT α),TN vG α K=gH.unc fun σ=>az Pg avS zr akE K σ:=aZ (fun α K=>by kernel_rfl)
def awn (α:Type)(g:ae)(h i j l m o p:Int)(a:ae)(r:Bool)(b c d e s:Int)(k1:ae->Bool->Op α)(k2:ae->Int->Int->Bool->Op α):Op α:=
 gl α g h i j l m o p b c d e
 (fun z=>cK (z == 2)
 (gK (cy 1 8 a [[DC.v (.int .i64 0)]]) (k1 (a++[[DC.v (.int .i64 0)]]) r))
 (ep α b c
 (fun t=>ep α d e
 (fun w=>oz α
 (gl α g h i j l m o p t t w w
 (fun A=>cK (A == 0)
 (k2 a t w r)
 (jt α b c d e
 (fun q=>vG α s q
 (fun B=>cK B
 (k1 a true)
 (gK (cy 1 8 a [[DC.v (.int .i64 q)]]) (jP α b c d e q
 (fun C D F G V=>By α g h i j l m o p (a++[[DC.v (.int .i64 q)]]) r b C d D (w64 (s+1))
 (fun H I=>By α g h i j l m o p H I F c G e (w64 (s+1))
 (fun J L=>k1 J L)
 (fun M N O P=>k2 M N O P))
 (fun Q R T U=>k2 Q R T U)))))))))))))
def vp:nK:=sld awn
def alL (v:nK)(α:Type)(k:RT α):ae->ae->Int->Int->Int->Int->Int->Int->Int->Int->Int->Int->Int->ae->Bool->I5 (Op α):=fun m a b c d e g o p q r h i s t w z A B C=>v α a b c d e g h i s t w z A B C (fun j l=>lO k true m a b c d e g o p q r h i j l) (fun j l D F=>ma k false m a b c d e g o p q r h i j l D F)
def azA:ag:=(ag.put (.m [⟨gH,TN vG⟩]) [1,1,1,1,0] (emb nl))
theorem awH:ak Pg 96 89 ⟨kJ,alL vp⟩:=iZ axO (ah Tryz.func96 (by kernel_rfl)) zr azA ((an _ _).trans (aA _)) (aM (by kernel_rfl) (aD nl) ⟨aqW,trivial⟩) fun _ _=>by kernel_rfl
def Je:PT St:=pSv [(0,500000000,0)] [sl 0 (aV false [(cB 500000000 0)]),sI 2,sP 4,sI 8] [au 500000000 [(cD dL),(cD dL),xI,xI,xI,xI,xI,xI,xI,xI,xI,xI,xI,Oy,(cD dNP),(cD dB)],au 4 (xs 4)]
def aIB {β:Type}(g:St->β):Int->Int->ae->ae->Int->Int->Int->Int->Int->Int->Int->Int->Int->Int->Int->Bool->I4 β:=Je.unc g
def an9:PT St:=pSv [(0,500000000,0)] [sl 0 (aV false [(cB 500000000 0)]),sI 2,sP 4,sI 8,sl 55 (aV false [(cD dB)])] [au 500000000 [(cD dL),(cD dL),xI,xI,xI,xI,xI,xI,xI,xI,xI,xI,xI,Oy,(cD dNP),(cD dB)],au 4 (xs 4)]
def apy {β:Type}(g:St->β):Int->Int->Bool->ae->ae->Int->Int->Int->Int->Int->Int->Int->Int->Int->Int->Int->Bool->I4 β:=an9.unc g
def akY:PT (List RV):=pRs [pR false [rD dB],pR true [rD dL,rD dL,rD (dI .i64),rD (dI .i64),rD (dI .i64),rD (dI .i64),rD (dI .i64),rD (dI .i64),rD (dI .i64),rD (dI .i64),rD (dI .i64),rD (dI .i64),rD (dI .i64),rD dL,rD (dP [(dI .i64),(dI .i64)] 0),rD dB]]
def aet {β:Type}(g:List RV->β):Bool->ae->ae->Int->Int->Int->Int->Int->Int->Int->Int->Int->Int->Int->ae->Int->Int->Bool->β:=akY.unc g
def aiy:PT (List RV):=pRs [pR false [rD dB],pR true [rD dL,rD dL,rD (dI .i64),rD (dI .i64),rD (dI .i64),rD (dI .i64),rD (dI .i64),rD (dI .i64),rD (dI .i64),rD (dI .i64),rD (dI .i64),rD (dI .i64),rD (dI .i64),rD dL,rD dNP,rD dB]]
def agk {β:Type}(g:List RV->β):Bool->ae->ae->Int->Int->Int->Int->Int->Int->Int->Int->Int->Int->Int->ae->Bool->β:=aiy.unc g
def avP:aE:=aE.ofIO (⟨96,89,[⟨kJ,alL vp⟩]⟩::Lg) bt io0
theorem azO:avP.Ok Pg:=aE.ofIO_ok aN ⟨⟨awH,trivial⟩,PD⟩
def akZ:ag:=ag.sub [1,1,1,1,0,0] (emb nl)
def Lp (α:Type)(a b:Int)(k1:Bool->Op α):Op α:=
 cK (a == 5)
 (k1 true)
 (k1 (b == 0))
def tO:bI:=sld Lp
def X0 (v:bI)(α:Type)(K:KT α):Int->Int->ae->ae->Int->Int->Int->Int->Int->Int->Int->Int->Int->Int->Int->Bool->I4 (Op α):=fun a b c d e g h i j l m o p q r s t w z A=>v α a b (fun B=>apy (K .normal) a b B c d e g h i j l m o p q r s t w z A)
theorem amw:∀ (α:Type) (K:KT α),X0 tO α K=Je.unc fun σ=>az Pg avP zr akZ K σ:=aZ (fun α K=>by kernel_rfl)
abbrev amc:Type 1:=(α:Type)->ae->Int->Int->Int->Int->Int->Int->Int->Bool->Int->Int->Int->Int->Int->(ae->Bool->Op α)->(Int->Int->Op α)->(Op α)->(ae->Int->Int->Bool->Op α)->Op α
def alO (α:Type)(e:ae)(g h i j l m o:Int)(t:Bool)(a b c d p:Int)(k1:ae->Bool->Op α)(k2:Int->Int->Op α)(k3:Op α)(k4:ae->Int->Int->Bool->Op α):Op α:=
 gl α e g h i j l m o a b c d
 (fun w=>cK (w == 2)
 (k1 [[DC.v (.int .i64 0)]] t)
 (ep α a b
 (fun q=>ep α c d
 (fun r=>oz α
 (gl α e g h i j l m o q q r r
 (fun z=>cK (z == 0)
 (k2 q r)
 (jt α a b c d
 (fun s=>tO α p s
 (fun A=>cK A
 (k3)
 (jP α a b c d s
 (fun B C D F U=>vp α e g h i j l m o [[DC.v (.int .i64 s)]] t a B c C (w64 (p+1))
 (fun G H=>vp α e g h i j l m o G H D b F d (w64 (p+1))
 (fun I J=>k1 I J)
 (fun L M N O=>k4 L M N O))
 (fun P Q R T=>k4 P Q R T))))))))))))
def Nm:amc:=sld alO
def ahl:PT (List DV):=pA [pV false [(dMr [dL,dL,(dI .i64),(dI .i64),(dI .i64),(dI .i64),(dI .i64),(dI .i64),(dI .i64),(dI .i64),(dI .i64),(dI .i64),(dI .i64),dON,dNP,dB] 0)],pV true [(dI .i64),(dI .i64),(dI .i64),(dI .i64)],vI]
def aka (v:amc)(α:Type)(k:RT α):ae->ae->Int->Int->Int->Int->Int->Int->Int->Int->Int->Int->Int->Bool->I5 (Op α):=fun m a b c d e g o p q r h i s t w z A B=>v α a b c d e g h i s t w z A B (fun j l=>lO k true m a b c d e g o p q r h i j l) (fun j l=>aet k false m a b c d e g o p q r h i ([]:ae) j l s) (agk k true m a b c d e g o p q r h i ([]:ae) true) (fun j l C D=>ma k false m a b c d e g o p q r h i j l C D)
def ayO:ag:=(ag.put (.m [⟨Je,X0 tO⟩]) [1,1,1,1,0] (emb nl))
theorem ax5:ak Pg 96 89 ⟨ahl,aka Nm⟩:=iZ azO (ah Tryz.func96 (by kernel_rfl)) zr ayO ((an _ _).trans (aA _)) (aM (by kernel_rfl) (aD nl) ⟨amw,trivial⟩) fun _ _=>by kernel_rfl
def acX:SG:=[(11,[.sl,.sl,.int .i64,.sl,.int .i64,.int .i64]),(28,[.sl,.sl,.int .i64,.sl,.int .i64,.int .i64])]
def aJ4:TG:=[tT 0 [1,2],tT 1 [1,2],tT 2 [1,2,7],tT 3 [1,2,7,16],tT 4 [4,5],tT 5 [1,2,20],tT 6 [4,5],tT 7 [2,8],tT 8 [2,8,23],tT 10 [2,8],tT 11 [2,8,29],tT 12 [4,5],tT 9 [2,8],tT 13 [4,5]]
def aKT:TG:=[(8,⟨[2,8],true,[⟨true,2,0,30200,3⟩,⟨true,2,1,30201,2⟩,⟨true,2,3,30203,9⟩],[]⟩)]
def ash:aq:=aw Pg Tryz.f11 aJ4 aKT
def ut:OT:=tdC (ag.sub [1,1,1,1,0,1,0] (emb ash))
def HV:PT St:=pS [sP 2,sI 8] [au 2 [(cD dL),(cD dL),xI,(cD dL),xI,xI]]
def Jt {β:Type}(g:St->β):Int->ae->ae->Int->ae->Int->Int->β:=HV.unc g
def auD:PT St:=pS [sP 2,sI 8,sl 23 (aV false [(cD dB)])] [au 2 [(cD dL),(cD dL),xI,(cD dL),xI,xI]]
def AW {β:Type}(g:St->β):Int->Bool->ae->ae->Int->ae->Int->Int->β:=auD.unc g
def vP:ag:=ag.sub [1,1,1,1,0,1,0,0] (emb ash)
def pX (α:Type)(b c d:ae)(e g a h:Int)(kn:Int->Int->Op α)(k1:Int->Op α)(k2:Int->Bool->Int->Op α):Op α:=
 cK (decide (0<=a))
 (N2 α b c a d e g
 (fun i=>cK i
 (k1 a)
 (kn (w64 (a - 1)) a)))
 (k2 a (decide (0<=a)) h)
def mO (α:Type)(a b c:ae)(d e:Int)(k1:Int->Op α)(k2:Int->Bool->Int->Op α):Nat->Int->Int->Op α
 | 0,_,_=>none
 | n+1,g,h=>pX α a b c d e g h (mO α a b c d e k1 k2 n) k1 k2
def MY (α:Type)(a b c:ae)(d e:Int)(k1:Int->Op α)(k2:Int->Bool->Int->Op α)(g h:Int):Op α:=mO α a b c d e k1 k2 aF g h
abbrev NN:Type 1:=(α:Type)->ae->ae->ae->Int->Int->(Int->Op α)->(Int->Bool->Int->Op α)->Int->Int->Op α
def z4:NN:=sld MY
def Ro (v:NN)(α:Type)(K:KT α):Int->ae->ae->Int->ae->Int->Int->Op α:=fun h b c i d e g=>v α b c d e g (fun a=>fR (K .ret) a 0) (fun a j l=>AW (K (.exit 0)) a j b c l d e g) h i
theorem anY (α:Type)(K:KT α)(Kn:SK α)(a:Int)(b c:ae)(d:Int)(e:ae)(g h:Int):Jt (fun σ=>az Pg Z1 acX vP (bK (fun σ=>bq ut σ Kn) K) σ) a b c d e g h=pX α b c e g h a d (fun a d=>Jt Kn a b c d e g h) (fun i=>fR (K .ret) i 0) (fun i j l=>AW (K (.exit 0)) i j b c l e g h):=by kernel_rfl
theorem anL (α:Type)(K:KT α):∀ (n:Nat) (g:Int) (a b:ae) (h:Int) (c:ae) (d e:Int),mO α a b c d e (fun i=>fR (K .ret) i 0) (fun i j l=>AW (K (.exit 0)) i j a b l c d e) n g h=Jt (aJ (az Pg Z1 acX vP) ut K n) g a b h c d e:=by
 intro n
 induction n with
 | zero=>intros;rfl
 | succ n ih=>intro g a b h c d e;exact (congrArg (fun kn=>pX α a b c d e g h kn (fun i=>fR (K .ret) i 0) (fun i j l=>AW (K (.exit 0)) i j a b l c d e)) (funext fun g=>funext fun h=>ih g a b h c d e)).trans (anY α K (aJ (az Pg Z1 acX vP) ut K n) g a b h c d e).symm
theorem aub:∀ (α:Type) (K:KT α),Ro z4 α K=HV.unc fun σ=>aJ (az Pg Z1 acX vP) ut K aF σ:=aZ (fun α K=>funext fun a=>funext fun b=>funext fun c=>funext fun d=>funext fun e=>funext fun g=>funext fun h=>anL α K aF a b c d e g h)
abbrev Jz:Type 1:=(α:Type)->ae->ae->ae->Int->Int->Int->(Int->Int->Op α)->Op α
def akI (α:Type)(a b e:ae)(g h c:Int)(k1:Int->Int->Op α):Op α:=
 HP α a b 0
 (fun l d=>cK (d != 0)
 (k1 0 d)
 (cL α c 0 50
 (fun i=>cK (!i)
 (k1 0 2)
 (z4 α a b e g h
 (fun j=>k1 j 0)
 (fun m o p=>k1 0 17) c 0))))
def E2:Jz:=sld akI
def yA:PT (List DV):=pA [pV true [dL,dL,(dI .i64),dL,(dI .i64),(dI .i64)],vI]
def ady (v:Jz)(α:Type)(k:RT α):ae->ae->Int->ae->Int->Int->Int->Op α:=fun a b j c d e g=>v α a b c d e g (fun h i=>fp k h i)
def aw6:ag:=(ag.put (.m [⟨HV,Ro z4⟩]) [1,1,1,1,0,1,0] (emb ash))
theorem axj:ak Pg 11 31 ⟨yA,ady E2⟩:=iZ aCC (ah Tryz.func11 (by kernel_rfl)) acX aw6 ((an _ _).trans (aA _)) (aY (td:=ut) (by kernel_rfl) (aD ash) ⟨aub,trivial⟩) fun _ _=>by kernel_rfl
def OY:SG:=[(11,[.sl]),(16,iS 9),(17,iS 9),(18,[.sl,.sl,.int .i64,.int .i64]),(19,iS 9),(24,iS 9),(39,iT),(46,iT),(51,[.bool]),(56,[.sl])]
def aK5:TG:=[tT 0 [1,4],tT 1 [1,4,5],tT 2 [1,4,5,6],tT 3 [1,4,5,6,11,12,13],tT 4 [1,4,5,6,11,12,13,14],tT 5 [1,4,5,6,7,8,11,12,13],tT 6 [1,4,5,6,7,8,9,11,12,13],tT 7 [1,4,5,6,7,9,11,12,13],tT 8 [1,4,5,6,7,9,11,12,13,31],(9,⟨[2,3,4],true,[],[3]⟩),tT 10 [1,4,5,6,9,11,12,13,51],tT 11 [1,4,5,6,9,11,12,13],tT 12 [1,4,5,6,11,12,13],tT 13 [1,4,5,6,11,12,13],tT 14 [4,5,6,61],tT 15 [4,5,6],(16,⟨[2,3,4],true,[],[3]⟩)]
def aLu:TG:=[(4,⟨[1,4,5,6,11,12,13],true,[⟨false,5,0,20005,1⟩,⟨false,11,0,20011,9⟩,⟨true,1,0,30100,9⟩,⟨true,1,1,30101,5⟩,⟨true,22,0,32200,9⟩,⟨true,22,1,32201,5⟩,⟨true,22,13,32213,1⟩],[]⟩)]
def abo:aq:=aw Pg Tryz.f71 aK5 aLu
def wH:OT:=tdC (ag.sub [1,1,1,0,1,0] (emb abo))
def zI:PT St:=pS [sP 1,sP 4,sl 5 (aV false [(ej 20005)]),sI 6,sI 7,sP 8,sl 9 (aV false [(cB 22 0)]),sl 11 (aV false [(cD dL)]),sI 12,sI 13] [au 1 [(cD dL),(cD dL),xI,xI],au 4 (xs 3),ei 20005 1,au 8 (xs 9),au 22 [(cD dL),(cD dL),xI,xI,xI,xI,xI,xI,xI,xI,xI,xI,xI,Oy,(cD dNP),(cD dB)]]
def aIA {β:Type}(g:St->β):Int->Int->ae->Int->Int->ae->ae->Int->Int->Int->Int->Int->ae->Int->Int->Int->Int->Int->Int->Int->Int->Int->ae->ae->Int->Int->Int->Int->Int->Int->Int->Int->Int->Int->Int->Bool->β:=zI.unc g
def anT:PT St:=pS [sP 1,sP 4,sl 5 (aV false [(ej 20005)]),sI 6,sI 7,sl 9 (aV false [(cB 22 0)]),sl 11 (aV false [(cD dL)]),sI 12,sI 13] [au 1 [(cD dL),(cD dL),xI,xI],au 4 (xs 3),ei 20005 1,au 22 [(cD dL),(cD dL),xI,xI,xI,xI,xI,xI,xI,xI,xI,xI,xI,(ej 770026),(cD dNP),(cD dB)],ei 770026 1]
def aqo {β:Type}(g:St->β):Int->Int->ae->Int->Int->ae->ae->Int->Int->Int->Int->Int->ae->ae->ae->Int->Int->Int->Int->Int->Int->Int->Int->Int->Int->Int->Bool->ae->β:=anT.unc g
def aq9:PT St:=pS [sP 1,sP 4,sl 5 (aV false [(ej 20005)]),sI 6,sI 7,sl 9 (aV false [(cB 22 0)]),sl 11 (aV false [(cD dL)]),sI 12,sI 13] [au 1 [(cD dL),(cD dL),xI,xI],au 4 (xs 3),ei 20005 1,au 22 [(cD dL),(cD dL),xI,xI,xI,xI,xI,xI,xI,xI,xI,xI,xI,(cD dL),(cD (dP [(dI .i64),(dI .i64)] 0)),(cD dB)]]
def anG {β:Type}(g:St->β):Int->Int->ae->Int->Int->ae->ae->Int->Int->Int->Int->Int->ae->ae->ae->Int->Int->Int->Int->Int->Int->Int->Int->Int->Int->Int->ae->Int->Int->Bool->β:=aq9.unc g
def aq8:PT St:=pS [sP 1,sP 4,sl 5 (aV false [(ej 20005)]),sI 6,sI 7,sl 9 (aV false [(cB 22 0)]),sl 11 (aV false [(cD dL)]),sI 12,sI 13] [au 1 [(cD dL),(cD dL),xI,xI],au 4 (xs 3),ei 20005 1,au 22 [(cD dL),(cD dL),xI,xI,xI,xI,xI,xI,xI,xI,xI,xI,xI,(cD dL),(cD dNP),(cD dB)]]
def auA {β:Type}(g:St->β):Int->Int->ae->Int->Int->ae->ae->Int->Int->Int->Int->Int->ae->ae->ae->Int->Int->Int->Int->Int->Int->Int->Int->Int->Int->Int->ae->Bool->β:=aq8.unc g
def amP:PT St:=pS [sP 1,sP 4,sl 5 (aV false [(ej 20005)]),sI 6,sI 7,sl 9 (aV false [(cB 22 0)]),sl 11 (aV false [(cD dL)]),sI 12,sI 13] [au 1 [(cD dL),(cD dL),xI,xI],au 4 (xs 3),ei 20005 1,au 22 [(cD dL),(cD dL),xI,xI,xI,xI,xI,xI,xI,xI,xI,xI,xI,(ej 770026),(cD (dP [(dI .i64),(dI .i64)] 0)),(cD dB)],ei 770026 1]
def arD {β:Type}(g:St->β):Int->Int->ae->Int->Int->ae->ae->Int->Int->Int->Int->Int->ae->ae->ae->Int->Int->Int->Int->Int->Int->Int->Int->Int->Int->Int->Int->Int->Bool->ae->β:=amP.unc g
def Az:PT St:=pS [sP 1,sP 4,sl 5 (aV false [(ej 20005)]),sI 6,sI 7,sl 9 (aV false [(cB 22 0)]),sl 11 (aV false [(cD dL)]),sI 12,sI 13,sl 31 (aV false [(cD dB)])] [au 1 [(cD dL),(cD dL),xI,xI],au 4 (xs 3),ei 20005 1,au 22 [(cD dL),(cD dL),xI,xI,xI,xI,xI,xI,xI,xI,xI,xI,xI,(ej 770026),(cD dNP),(cD dB)],ei 770026 1]
def aIy {β:Type}(g:St->β):Int->Int->ae->Int->Int->Bool->ae->ae->Int->Int->Int->Int->Int->ae->ae->ae->Int->Int->Int->Int->Int->Int->Int->Int->Int->Int->Int->Bool->ae->β:=Az.unc g
def apK:PT St:=pS [sP 1,sP 4,sl 5 (aV false [(ej 20005)]),sI 6,sl 9 (aV false [(cB 22 0)]),sl 11 (aV false [(cD dL)]),sI 12,sI 13] [au 1 [(cD dL),(cD dL),xI,xI],au 4 (xs 3),ei 20005 1,au 22 [(cD dL),(cD dL),xI,xI,xI,xI,xI,xI,xI,xI,xI,xI,xI,(ej 770026),(cD dNP),(cD dB)],ei 770026 1]
def auQ {β:Type}(g:St->β):Int->ae->Int->Int->ae->ae->Int->Int->Int->Int->Int->ae->ae->ae->Int->Int->Int->Int->Int->Int->Int->Int->Int->Int->Int->Bool->ae->β:=apK.unc g
def aqK:PT St:=pS [sP 1,sP 4,sl 5 (aV false [(ej 20005)]),sI 6,sl 9 (aV false [(cB 22 0)]),sl 11 (aV false [(cD dL)]),sI 12,sI 13,sl 51 (aV false [(cD dB)])] [au 1 [(cD dL),(cD dL),xI,xI],au 4 (xs 3),ei 20005 1,au 22 [(cD dL),(cD dL),xI,xI,xI,xI,xI,xI,xI,xI,xI,xI,xI,(ej 770026),(cD dNP),(cD dB)],ei 770026 1]
def arO {β:Type}(g:St->β):Int->ae->Int->Int->Bool->ae->ae->Int->Int->Int->Int->Int->ae->ae->ae->Int->Int->Int->Int->Int->Int->Int->Int->Int->Int->Int->Bool->ae->β:=aqK.unc g
def IH:PT St:=pS [sP 1,sP 4,sl 5 (aV false [(ej 20005)]),sI 6,sl 11 (aV false [(cD dL)]),sI 12,sI 13] [au 1 [(cD dL),(cD dL),xI,xI],au 4 (xs 3),ei 20005 1]
def IU {β:Type}(g:St->β):Int->ae->Int->Int->ae->ae->Int->Int->Int->Int->Int->ae->β:=IH.unc g
def ahd:PT St:=pS [sP 1,sP 4,sl 5 (aV false [(ej 20005)]),sI 6,sl 11 (aV false [(cD dL)]),sI 12,sI 13,sl 14 (aV false [(cD dB)])] [au 1 [(cD dL),(cD dL),xI,xI],au 4 (xs 3),ei 20005 1]
def wE {β:Type}(g:St->β):Int->ae->Int->Int->Bool->ae->ae->Int->Int->Int->Int->Int->ae->β:=ahd.unc g
def CF:aE:=aE.ofIO (⟨96,89,[⟨ahl,aka Nm⟩]⟩::Lg) bt io0
theorem awr:CF.Ok Pg:=aE.ofIO_ok aN ⟨⟨ax5,trivial⟩,PD⟩
def aiS:ag:=ag.sub [1,1,1,0,1,0,0,1,1,0,0,1,1,1,1,0] (emb abo)
def Og (α:Type)(a:Bool)(k1:Op α)(k2:Op α):Op α:=
 cK a
 (k1)
 (k2)
def m8:bV:=sld Og
def Ju (v:bV)(α:Type)(K:KT α):Int->Int->ae->Int->Int->Bool->ae->ae->Int->Int->Int->Int->Int->ae->ae->ae->Int->Int->Int->Int->Int->Int->Int->Int->Int->Int->Int->Bool->ae->Op α:=fun I J b c d L e g h i j l m o p q r s t w z A B C D F G a H=>v α a (auQ (K .normal) 1 b c d e g h i j l m o p q r s t w z A B C D F G a H) (arO (K .normal) I b c d a e g h i j l m o p q r s t w z A B C D F G a H)
theorem aq7:∀ (α:Type) (K:KT α),Ju m8 α K=Az.unc fun σ=>az Pg CF OY aiS K σ:=aZ (fun α K=>by kernel_rfl)
def aeq:ag:=ag.sub [1,1,1,0,1,0,0,1,1,0,0,1,1,0] (emb abo)
abbrev Ov:Type 1:=(α:Type)->Int->Int->Int->Int->ae->Int->Int->Int->Int->Int->Int->Int->Bool->(Bool->ae->Op α)->(Int->Int->Op α)->(Op α)->(Int->Int->Bool->ae->Op α)->Op α
def LX (α:Type)(a b c d:Int)(e:ae)(g h i j l m o:Int)(p:Bool)(k1:Bool->ae->Op α)(k2:Int->Int->Op α)(k3:Op α)(k4:Int->Int->Bool->ae->Op α):Op α:=
 GL α
 (Nm α e g h i j l m o p c d a b 0
 (fun q r=>k1 r q)
 (fun s t=>k2 s t)
 (k3)
 (fun w z A B=>k4 z A B w))
def sY:Ov:=sld LX
def Jr (v:Ov)(α:Type)(K:KT α):Int->Int->ae->Int->Int->ae->ae->Int->Int->Int->Int->Int->ae->Int->Int->Int->Int->Int->Int->Int->Int->Int->ae->ae->I11 (Bool->Op α):=fun m o p q r s t w z A B C D T U V M N O P W X F a b c d e g G H I J h i L=>v α M N O P a b c d e g h i L (fun j l=>aqo (K .normal) m o p q r s t w z A B C D F a b c d e g G H I J h i j l) (fun j l=>anG (K .normal) m o p q r s t w z A B C D F a b c d e g G H I J h i ([]:ae) j l L) (auA (K .normal) m o p q r s t w z A B C D F a b c d e g G H I J h i ([]:ae) true) (fun j l Q R=>arD (K .normal) m o p q r s t w z A B C D F a b c d e g G H I J h i j l Q R)
theorem amy:∀ (α:Type) (K:KT α),Jr sY α K=zI.unc fun σ=>az Pg CF OY aeq K σ:=aZ (fun α K=>by kernel_rfl)
def wK:ag:=ag.sub [1,1,1,0,1,0,0] (ag.put (.m [⟨zI,Jr sY⟩]) [1,1,1,0,1,0,0,1,1,0,0,1,1] (ag.put (.m [⟨Az,Ju m8⟩]) [1,1,1,0,1,0,0,1,1,0,0,1,1,1,1] (emb abo)))
def uX (α:Type)(g:ae)(d:Int)(h:ae)(i j e a:Int)(b:ae)(kn:Int->Int->ae->Op α)(k1:Int->Int->Int->Op α)(k2:Int->Int->Bool->ae->Op α):Op α:=
 cK (decide (a < d))
 (dG g a [.int .i64,.int .i64,.int .i64,.int .i64,.int .i64,.int .i64,.int .i64,.int .i64,.int .i64]
 (fun l m o p q r s t w=>sY α p q r s h i j l m o t w false
 (fun z c=>m8 α z
 (gK (cy 1 24 b [[DC.sl c]]) (kn 1 (w64 (a+1)) (b++[[DC.sl c]])))
 (gK (cy 1 24 b [[DC.sl c]]) (kn e (w64 (a+1)) (b++[[DC.sl c]]))))
 (fun A B=>k1 a A B)
 (gK (cy 1 24 b [[DC.sl ([]:ae)]]) (kn 1 (w64 (a+1)) (b++[[DC.sl ([]:ae)]])))
 (fun C D F G=>k1 a C D)))
 (k2 e a (decide (a < d)) b)
def mQ (α:Type)(a:ae)(b:Int)(c:ae)(d e:Int)(k1:Int->Int->Int->Op α)(k2:Int->Int->Bool->ae->Op α):Nat->Int->Int->ae->Op α
 | 0,_,_,_=>none
 | n+1,g,h,i=>uX α a b c d e g h i (mQ α a b c d e k1 k2 n) k1 k2
def Mp (α:Type)(a:ae)(b:Int)(c:ae)(d e:Int)(k1:Int->Int->Int->Op α)(k2:Int->Int->Bool->ae->Op α)(g h:Int)(i:ae):Op α:=mQ α a b c d e k1 k2 aF g h i
abbrev Ni:Type 1:=(α:Type)->ae->Int->ae->Int->Int->(Int->Int->Int->Op α)->(Int->Int->Bool->ae->Op α)->Int->Int->ae->Op α
def Aa:Ni:=sld Mp
def Wn (v:Ni)(α:Type)(K:KT α):Int->ae->Int->Int->ae->ae->Int->Int->Int->Int->Int->ae->Op α:=fun j d e l m g h i o p q r=>v α d e g h i (fun a b c=>kr (K .ret) 0 ([]:ae) a b c) (fun a b c s=>wE (K (.exit 0)) a d e b c m g h i o p q s) j l r
theorem anu (α:Type)(K:KT α)(Kn:SK α)(a:Int)(b:ae)(c d:Int)(j e:ae)(g h l m o:Int)(i:ae):IU (fun σ=>az Pg CF OY wK (bK (fun σ=>bq wH σ Kn) K) σ) a b c d j e g h l m o i=uX α b c e g h a d i (fun a d i=>IU Kn a b c d j e g h l m o i) (fun p q r=>kr (K .ret) 0 ([]:ae) p q r) (fun p q r s=>wE (K (.exit 0)) p b c q r j e g h l m o s):=by kernel_rfl
theorem aqG (α:Type)(K:KT α):∀ (n:Nat) (g:Int) (a:ae) (b h:Int) (o c:ae) (d e p q r:Int) (i:ae),mQ α a b c d e (fun j l m=>kr (K .ret) 0 ([]:ae) j l m) (fun j l m s=>wE (K (.exit 0)) j a b l m o c d e p q r s) n g h i=IU (aJ (az Pg CF OY wK) wH K n) g a b h o c d e p q r i:=by
 intro n
 induction n with
 | zero=>intros;rfl
 | succ n ih=>intro g a b h o c d e p q r i;exact (congrArg (fun kn=>uX α a b c d e g h i kn (fun j l m=>kr (K .ret) 0 ([]:ae) j l m) (fun j l m s=>wE (K (.exit 0)) j a b l m o c d e p q r s)) (funext fun g=>funext fun h=>funext fun i=>ih g a b h o c d e p q r i)).trans (anu α K (aJ (az Pg CF OY wK) wH K n) g a b h o c d e p q r i).symm
theorem ap9:∀ (α:Type) (K:KT α),Wn Aa α K=IH.unc fun σ=>aJ (az Pg CF OY wK) wH K aF σ:=aZ (fun α K=>funext fun a=>funext fun b=>funext fun c=>funext fun d=>funext fun e=>funext fun g=>funext fun h=>funext fun i=>funext fun j=>funext fun l=>funext fun m=>funext fun o=>aqG α K aF a b c d e g h i j l m o)
def al9 (α:Type)(b c:ae)(d e:Int)(k1:Int->ae->Int->Int->Int->Op α):Op α:=
 Aa α b ((List.length b:Nat):Int) c d e
 (fun g h i=>k1 0 ([]:ae) g h i)
 (fun a l m j=>cK (a != 2)
 (k1 a ([]:ae) 0 0 0)
 (k1 a j 0 0 0)) 2 0 ([]:ae)
def RL:H3:=sld al9
def akr (v:H3)(α:Type)(k:RT α):ae->ae->Int->Int->Op α:=fun a b c d=>v α a b c d (fun e g h i j=>Mr k e g h i j)
def axM:ag:=(ag.put (.m [⟨IH,Wn Aa⟩]) [1,1,1,0,1,0] (ag.put (.m [⟨zI,Jr sY⟩]) [1,1,1,0,1,0,0,1,1,0,0,1,1] (ag.put (.m [⟨Az,Ju m8⟩]) [1,1,1,0,1,0,0,1,1,0,0,1,1,1,1] (emb abo))))
theorem ayQ:ak Pg 71 65 ⟨kX,akr RL⟩:=iZ awr (ah Tryz.func71 (by kernel_rfl)) OY axM ((an _ _).trans ((an _ _).trans ((an _ _).trans (aA _)))) (aY (td:=wH) (by kernel_rfl) (aM (by kernel_rfl) (aM (by kernel_rfl) (aD abo) ⟨aq7,trivial⟩) ⟨amy,trivial⟩) ⟨ap9,trivial⟩) fun _ _=>by kernel_rfl
def aKK:SG:=[(12,[.sl,.sl,.int .i64,.int .i64]),(21,[.sl,.sl,.int .i64,.int .i64]),(28,iS 3)]
def aI7:TG:=[tT 0 [1,4],tT 1 [1,4,7],tT 2 [1,4,7,17],(3,⟨[2,3,4,5],true,[],[3]⟩),tT 4 [4,8,9,10],tT 5 [2,3,4,5]]
def aJs:aq:=aw Pg Tryz.f35 aI7 aC
def alZ:PT (List RV):=pRs [wI,pR false [rD dL],pR true [rD (dI .i64),rD (dI .i64),rD (dI .i64)],wI]
def afa {β:Type}(g:List RV->β):Int->ae->I4 β:=alZ.unc g
noncomputable abbrev awp:List bA:=⟨71,65,[⟨kX,akr RL⟩]⟩::⟨11,31,[⟨yA,ady E2⟩]⟩::Lg
theorem aEj:bG awp fun c=>bG c.l (ak Pg c.f c.nt):=⟨⟨ayQ,trivial⟩,⟨axj,trivial⟩,PD⟩
def aIO:aE:=aE.ofIO awp bt io0
theorem aJJ:aIO.Ok Pg:=aE.ofIO_ok aN aEj
abbrev ahC:Type 1:=(α:Type)->ae->ae->Int->Int->(Int->ae->I4 (Op α))->Op α
def afW (α:Type)(a b:ae)(c d:Int)(k1:Int->ae->I4 (Op α)):Op α:=
 Dy α a b c d
 (fun m e=>cK (e != 0)
 (k1 0 ([]:ae) 0 0 0 e)
 (RL α a b c d
 (fun g h i j l=>k1 g h i j l 0)))
def OI:ahC:=sld afW
def amd (v:ahC)(α:Type)(k:RT α):ae->ae->Int->Int->Op α:=fun a b c d=>v α a b c d (fun e g h i j l=>afa k e g h i j l)
theorem axZ:ak Pg 35 29 ⟨kX,amd OI⟩:=iP aJJ aJs (ah Tryz.func35 (by kernel_rfl)) aKK fun _ _=>by kernel_rfl
def aJc:SG:=[(11,[.sl,.sl,.int .i64,.sl,.int .i64,.int .i64]),(21,[.sl]),(24,iS 2),(32,iS 3)]
def aKa:TG:=[tT 0 [1,3],tT 1 [1,3,5,6],tT 2 [1,3,5,6,16],tT 3 [2,3,4],tT 4 [3,6,7,9],tT 5 [2,3,4]]
def aJQ:aq:=aw Pg Tryz.f12 aKa aC
noncomputable abbrev axT:List bA:=⟨35,29,[⟨kX,amd OI⟩]⟩::awp
theorem aGA:bG axT fun c=>bG c.l (ak Pg c.f c.nt):=⟨⟨axZ,trivial⟩,aEj⟩
def aKp:aE:=aE.ofIO axT bt io0
theorem aKi:aKp.Ok Pg:=aE.ofIO_ok aN aGA
def ah7 (α:Type)(b c:ae)(d:Int)(e:ae)(g h:Int)(k1:I5 (Op α)):Op α:=
 Fm α b c d
 (fun i a=>cK (a != 0)
 (k1 0 0 0 0 a)
 (OI α e i g h
 (fun j q l m o p=>k1 j l m o p)))
def MM:Kz:=sld ah7
def agj (v:Kz)(α:Type)(k:RT α):ae->ae->Int->ae->Int->Int->Op α:=fun a b c d e g=>v α a b c d e g (fun h i j l m=>M6 k h i j l m)
theorem axc:ak Pg 12 34 ⟨eM,agj MM⟩:=iP aKi aJQ (ah Tryz.func12 (by kernel_rfl)) aJc fun _ _=>by kernel_rfl
def aKw:TG:=[tT 0 [1],tT 1 [3,5],tT 2 [2]]
def aJG:aq:=aw Pg Tryz.f30 aKw aC
noncomputable abbrev aya:List bA:=⟨12,34,[⟨eM,agj MM⟩]⟩::axT
theorem aFC:bG aya fun c=>bG c.l (ak Pg c.f c.nt):=⟨⟨axc,trivial⟩,aGA⟩
def aLh:aE:=aE.ofIO aya bt io0
theorem aJB:aLh.Ok Pg:=aE.ofIO_ok aN aFC
def aeF (α:Type)(a b:ae)(c:Int)(d:ae)(e g:Int)(k1:Bool->Op α):Op α:=
 MM α a b c d e g
 (fun h j l m i=>cK (i == 0)
 (k1 (h == 2))
 (k1 false))
def NY:JO:=sld aeF
def akH (v:JO)(α:Type)(k:RT α):ae->ae->Int->ae->Int->Int->Op α:=fun a b c d e g=>v α a b c d e g (fun h=>bi k h)
theorem azZ:ak Pg 30 18 ⟨eM,akH NY⟩:=iP aJB aJG (ah Tryz.func30 (by kernel_rfl)) aCL fun _ _=>by kernel_rfl
def sh9:SG:=[(10,[.sl,.sl,.int .i64,.sl,.int .i64,.int .i64]),(23,iT),(29,[.sl,.sl,.int .i64,.sl,.int .i64,.int .i64]),(32,iT),(26,iT)]
def tr9:TG:=[tT 0 [1,2],tT 1 [1,2],tT 2 [1,2,7],tT 3 [1,2,7,15],tT 4 [4,5],tT 5 [1,2,19],tT 6 [4,5],tT 7 [2],tT 8 [2,24],tT 10 [2,30],tT 11 [4,5],tT 9 [2],tT 12 [4,5]]
def tl9:TG:=[(8,⟨[2],true,[⟨true,2,0,30200,3⟩,⟨true,2,1,30201,2⟩,⟨true,2,3,30203,9⟩],[]⟩)]
def ac9:aq:=aw Pg Tryz.f9 tr9 tl9
def Be:OT:=tdC (ag.sub [1,1,1,1,0,1,0] (emb ac9))
def O8:PT St:=pS [sP 2] [au 2 [(cD dL),(cD dL),xI,(cD dL),xI,xI]]
def Pb {β:Type}(g:St->β):ae->ae->Int->ae->Int->Int->β:=O8.unc g
def awq:PT St:=pS [sP 2,sl 24 (aV false [(cD dB)])] [au 2 [(cD dL),(cD dL),xI,(cD dL),xI,xI]]
def Kb {β:Type}(g:St->β):Bool->ae->ae->Int->ae->Int->Int->β:=awq.unc g
noncomputable abbrev ayU:List bA:=⟨30,18,[⟨eM,akH NY⟩]⟩::aya
theorem aCj:bG ayU fun c=>bG c.l (ak Pg c.f c.nt):=⟨⟨azZ,trivial⟩,aFC⟩
def acU:aE:=aE.ofIO ayU bt io0
theorem aK3:acU.Ok Pg:=aE.ofIO_ok aN aCj
def AK:ag:=ag.sub [1,1,1,1,0,1,0,0] (emb ac9)
def xQ (α:Type)(b c d:ae)(e g a:Int)(kn:Int->Op α)(k1:Int->Op α)(k2:Bool->Int->Op α):Op α:=
 cK (decide (0<=a))
 (NY α b c a d e g
 (fun h=>cK h
 (k1 a)
 (kn (w64 (a - 1)))))
 (k2 (decide (0<=a)) a)
def rE (α:Type)(a b c:ae)(d e:Int)(k1:Int->Op α)(k2:Bool->Int->Op α):Nat->Int->Op α
 | 0,_=>none
 | n+1,g=>xQ α a b c d e g (rE α a b c d e k1 k2 n) k1 k2
def Ud (α:Type)(a b c:ae)(d e:Int)(k1:Int->Op α)(k2:Bool->Int->Op α)(g:Int):Op α:=rE α a b c d e k1 k2 aF g
abbrev WP:Type 1:=(α:Type)->ae->ae->ae->Int->Int->(Int->Op α)->(Bool->Int->Op α)->Int->Op α
def JA:WP:=sld Ud
def adz (v:WP)(α:Type)(K:KT α):ae->ae->Int->ae->Int->Int->Op α:=fun b c h d e g=>v α b c d e g (fun a=>fR (K .ret) a 0) (fun a i=>Kb (K (.exit 0)) a b c i d e g) h
theorem awt (α:Type)(K:KT α)(Kn:SK α)(a b:ae)(c:Int)(d:ae)(e g:Int):Pb (fun σ=>az Pg acU sh9 AK (bK (fun σ=>bq Be σ Kn) K) σ) a b c d e g=xQ α a b d e g c (fun c=>Pb Kn a b c d e g) (fun h=>fR (K .ret) h 0) (fun h i=>Kb (K (.exit 0)) h a b i d e g):=by kernel_rfl
theorem awT (α:Type)(K:KT α):∀ (n:Nat) (a b:ae) (g:Int) (c:ae) (d e:Int),rE α a b c d e (fun h=>fR (K .ret) h 0) (fun h i=>Kb (K (.exit 0)) h a b i c d e) n g=Pb (aJ (az Pg acU sh9 AK) Be K n) a b g c d e:=by
 intro n
 induction n with
 | zero=>intros;rfl
 | succ n ih=>intro a b g c d e;exact (congrArg (fun kn=>xQ α a b c d e g kn (fun h=>fR (K .ret) h 0) (fun h i=>Kb (K (.exit 0)) h a b i c d e)) (funext fun g=>ih a b g c d e)).trans (awt α K (aJ (az Pg acU sh9 AK) Be K n) a b g c d e).symm
theorem ay0:∀ (α:Type) (K:KT α),adz JA α K=O8.unc fun σ=>aJ (az Pg acU sh9 AK) Be K aF σ:=aZ (fun α K=>funext fun a=>funext fun b=>funext fun c=>funext fun d=>funext fun e=>funext fun g=>awT α K aF a b c d e g)
def avn (α:Type)(a b e:ae)(g h c:Int)(k1:Int->Int->Op α):Op α:=
 Fm α a b 0
 (fun l d=>cK (d != 0)
 (k1 0 d)
 (oQ α c 0 50
 (fun i=>cK (!i)
 (k1 0 2)
 (JA α a b e g h
 (fun j=>k1 j 0)
 (fun m o=>k1 0 17) c))))
def abm:Jz:=sld avn
def avp (v:Jz)(α:Type)(k:RT α):ae->ae->Int->ae->Int->Int->Int->Op α:=fun a b j c d e g=>v α a b c d e g (fun h i=>fp k h i)
def aEg:ag:=(ag.put (.m [⟨O8,adz JA⟩]) [1,1,1,1,0,1,0] (emb ac9))
theorem aBn:ak Pg 9 33 ⟨yA,avp abm⟩:=iZ aK3 (ah Tryz.func9 (by kernel_rfl)) sh9 aEg ((an _ _).trans (aA _)) (aY (td:=Be) (by kernel_rfl) (aD ac9) ⟨ay0,trivial⟩) fun _ _=>by kernel_rfl
end
end Go.AM.K
