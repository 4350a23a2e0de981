/- Printed by KGen. -/
import Derived.Test.YtmcplmhohldpjaaGreatRe
import Derived.Test.YtmcplmhohldpjaaGreatRC
namespace Go.AM.K
open Go.Proofs
set_option maxRecDepth 100000
set_option linter.unusedVariables false
noncomputable section
abbrev nt5:Nat:=204
def sh5:SG:=[(27,[.sl,.sl,.int .i64,.sl,.int .i64,.int .i64]),(32,[.sl]),(38,[.sl]),(43,[.sl,.sl,.int .i64,.sl,.int .i64,.int .i64]),(56,[.sl,.sl,.int .i64,.sl,.int .i64,.int .i64]),(67,[.sl]),(72,[.sl]),(75,[.sl]),(78,iS 9),(79,iS 9),(80,[.sl,.sl,.int .i64,.sl,.int .i64,.int .i64]),(91,[.sl]),(95,[.sl]),(97,iT),(98,iT),(101,iS 5),(104,iT),(107,iS 5),(110,iT),(114,iS 5),(116,iS 2),(124,iS 5),(127,[.sl]),(130,iS 5),(132,iS 2),(137,iS 2),(139,iT),(142,iS 2),(144,iT),(148,iT),(153,iT),(159,iS 2),(167,iS 2),(169,iS 2),(171,iS 2),(174,iT),(177,iT),(180,iT),(185,iT),(188,iT),(193,[.sl,.sl,.int .i64,.sl,.int .i64,.int .i64])]
def tr5:TG:=[tT 0 [2,3,4],tT 1 [2,3,4,26],tT 2 [6],tT 3 [2,3,4,41],tT 4 [6],tT 5 [2,3,4,7,9],tT 6 [2,3,4,54],tT 7 [6],tT 8 [2,3,4,10,11],tT 9 [2,3,4,10,70],tT 10 [6],tT 11 [3,4,10,12],tT 12 [3,4,10,12,13],tT 13 [3,4,10,12,13],tT 14 [3,4,10,12,13,14],tT 15 [3,4,10,12,13,14,86],tT 17 [3,4,10,12,13,14,15],tT 18 [3,4,10,12,13,14,15,93],tT 19 [3,4,10,12,13,14,15],tT 20 [3,4,10,12,13,14,15,111],tT 21 [6],tT 22 [3,4,10,12,13,14,16],tT 23 [3,4,10,12,13,14],tT 24 [3,4,10,12,13,14],tT 16 [3,4,10,12,13,14],tT 25 [3,10,12,13,17,18],tT 26 [12,13,19,20],tT 27 [12,13,19,165],tT 28 [12,13,21],tT 29 [13,191],tT 30 [6],tT 31 [22,24],tT 32 [6]]
def tl5:TG:=[(15,⟨[3,4,10,12,13,14],true,[⟨false,10,0,20010,5⟩,⟨true,3,0,30300,3⟩,⟨true,3,1,30301,2⟩,⟨true,3,3,30303,9⟩,⟨true,4,2,30402,1⟩,⟨true,13,0,31300,3⟩,⟨true,13,1,31301,2⟩,⟨true,13,3,31303,9⟩],[]⟩)]
def ac5:au:=aD Pg Tryz.f5 tr5 tl5
def Bi:OT:=tdC (ag.sub [1,1,1,1,1,1,1,1,1,1,0,1,0] (emb ac5))
def Gd:PT St:=pS [sP 3,sP 4,sl 10 (aV false [(cY 20010)]),sP 12,sP 13,sI 14,sI 15] [aB 3 [(cD dL),(cD dL),xI,(cD dL),xI,xI],aB 4 [xI,xI,(cD dL)],cZ 20010 5,aB 12 (xs 9),aB 13 [(cY 31300),(cY 31301),xI,(cY 31303),xI,xI],cZ 31300 3,cZ 31301 2,cZ 31303 9]
def ai0 {β:Type}(g:St->β):Int->Int->ae->ae->Int->ae->Int->Int->Int->Int->ae->ae->Int->Int->Int->Int->Int->Int->Int->Int->Int->Int->Int->Int->ae->ae->ae->β:=Gd.unc g
def akQ:PT St:=pS [sP 3,sP 4,sl 10 (aV false [(cY 20010)]),sP 12,sP 13,sI 14,sI 15,sY 93 dB] [aB 3 [(cD dL),(cD dL),xI,(cD dL),xI,xI],aB 4 [xI,xI,(cD dL)],cZ 20010 5,aB 12 (xs 9),aB 13 [(cY 31300),(cY 31301),xI,(cY 31303),xI,xI],cZ 31300 3,cZ 31301 2,cZ 31303 9]
def akv {β:Type}(g:St->β):Int->Int->Bool->ae->ae->Int->ae->Int->Int->Int->Int->ae->ae->Int->Int->Int->Int->Int->Int->Int->Int->Int->Int->Int->Int->ae->ae->ae->β:=akQ.unc g
def K5:PT St:=pS [sP 3,sP 4,sl 10 (aV false [(cY 20010)]),sP 12,sP 13,sI 14] [aB 3 [(cD dL),(cD dL),xI,(cD dL),xI,xI],aB 4 [xI,xI,(cD dL)],cZ 20010 5,aB 12 (xs 9),aB 13 [(cY 31300),(cY 31301),xI,(cY 31303),xI,xI],cZ 31300 3,cZ 31301 2,cZ 31303 9]
def JN {β:Type}(g:St->β):Int->ae->ae->Int->ae->Int->Int->Int->Int->ae->ae->Int->Int->Int->Int->Int->Int->Int->Int->Int->Int->Int->Int->ae->ae->ae->β:=K5.unc g
def alp:PT St:=pS [sY 6 dB] []
def Ah {β:Type}(g:St->β):Bool->β:=alp.unc g
def akX:PT St:=pS [sP 3,sP 4,sl 10 (aV false [(cY 20010)]),sP 12,sP 13,sI 14,sY 86 dB] [aB 3 [(cD dL),(cD dL),xI,(cD dL),xI,xI],aB 4 [xI,xI,(cD dL)],cZ 20010 5,aB 12 (xs 9),aB 13 [(cY 31300),(cY 31301),xI,(cY 31303),xI,xI],cZ 31300 3,cZ 31301 2,cZ 31303 9]
def FP {β:Type}(g:St->β):Int->Bool->ae->ae->Int->ae->Int->Int->Int->Int->ae->ae->Int->Int->Int->Int->Int->Int->Int->Int->Int->Int->Int->Int->ae->ae->ae->β:=akX.unc g
def FM:PT St:=pS [sP 12,sP 13,sP 19,sY 165 dB] [aB 12 (xs 9),aB 13 [(cY 31300),(cY 31301),xI,(cY 31303),xI,xI],cZ 31300 3,cZ 31301 2,cZ 31303 9,aB 19 (xs 6)]
def akK {β:Type}(g:St->β):Bool->Int->Int->Int->Int->Int->Int->Int->Int->Int->Int->Int->Int->ae->ae->ae->I6 β:=FM.unc g
def al3:PT St:=pS [sP 12,sP 13,sP 21] [aB 12 (xs 9),aB 13 [(cY 31300),(cY 31301),xI,(cY 31303),xI,xI],cZ 31300 3,cZ 31301 2,cZ 31303 9,aB 21 [xI,xI]]
def alL {β:Type}(g:St->β):Int->Int->Int->Int->Int->Int->Int->Int->Int->Int->Int->Int->ae->ae->ae->Int->Int->β:=al3.unc g
def J6:PT St:=pS [sP 12,sP 13,sP 19,sI 20] [aB 12 (xs 9),aB 13 [(cY 31300),(cY 31301),xI,(cY 31303),xI,xI],cZ 31300 3,cZ 31301 2,cZ 31303 9,aB 19 (xs 6)]
def aub {β:Type}(g:St->β):Int->Int->Int->Int->Int->Int->Int->Int->Int->Int->Int->Int->Int->ae->ae->ae->I6 β:=J6.unc g
def aiO:PT St:=pS [sP 13,sY 191 dB] [aB 13 [(cY 31300),(cY 31301),xI,(cY 31303),xI,xI],cZ 31300 3,cZ 31301 2,cZ 31303 9]
def amb {β:Type}(g:St->β):Bool->Int->Int->Int->ae->ae->ae->β:=aiO.unc g
noncomputable abbrev ap7:List bz:=⟨20,aqF,[⟨XR,Z8 UW⟩]⟩::⟨22,34,[⟨kW,Zd wT⟩]⟩::amp
theorem as0:bF ap7 fun c=>bF c.l (al Pg c.f c.nt):=⟨⟨alF,TT⟩,⟨akL,TT⟩,an7⟩
def HK:aE:=aE.ofIO ap7 bD io0
theorem atz:HK.Ok Pg:=aE.ofIO_ok aO as0
def ael:ag:=ag.sub [1,1,1,1,1,1,1,1,1,1,1,1,1,0,1,0,0] (emb ac5)
abbrev Nr:Type 1:=(α:Type)->Int->Int->Int->Int->Int->Int->Int->(Int->Int->Op α)->Op α
def OP (α:Type)(a b c d e g h:Int)(k1:Int->Int->Op α):Op α:=
 cK (a == 2)
 (k1 g h)
 (cK (a == 1)
 (k1 d e)
 (cK (a == 0)
 (k1 b c)
 (none)))
def wp:Nr:=sld OP
def Ko (v:Nr)(α:Type)(K:KT α):Bool->Int->Int->Int->Int->Int->Int->Int->Int->Int->Int->Int->Int->ae->ae->ae->I6 (Op α):=fun F a b c d e g h i j l m o p q r s t w z A B=>v α a s t w z A B (fun C D=>alL (K .normal) a b c d e g h i j l m o p q r C D)
theorem alc:∀ (α:Type) (K:KT α),Ko wp α K=FM.unc fun σ=>aF Pg HK sh5 ael K σ:=bM (fun α K=>by kernel_rfl)
def aep:ag:=ag.sub [1,1,1,1,1,1,1,1,1,1,1,1,1,0] (ag.put (.m [⟨FM,Ko wp⟩]) [1,1,1,1,1,1,1,1,1,1,1,1,1,0,1,0] (emb ac5))
abbrev NB:Type 1:=(α:Type)->Int->Int->Int->Int->Int->Int->Int->Int->Int->Int->(Op α)->(Bool->Op α)->(Bool->Op α)->Op α
def LZ (α:Type)(a d e b g h i j l m:Int)(k1:Op α)(k2:Bool->Op α)(k3:Bool->Op α):Op α:=
 cK (a == 0)
 (wp α d g h i j l m
 (fun c o=>cK (decide ((w64 (o*10000)) < (w64 (e*1048576))))
 (k1)
 (cK (decide ((w64 (b*1048576)) < (w64 (c*10000))))
 (k1)
 (k2 (decide ((w64 (b*1048576)) < (w64 (c*10000))))))))
 (k3 (a == 0))
def z9:NB:=sld LZ
def Uz (v:NB)(α:Type)(K:KT α):Int->Int->Int->Int->Int->Int->Int->Int->Int->Int->Int->Int->Int->ae->ae->ae->I6 (Op α):=fun t b w z A B C D c d e g h i j l m o p q r s=>v α t b c d m o p q r s (Ah (K .ret) false) (fun a=>amb (K .normal) a e g h i j l) (fun a=>akK (K .normal) a b w z A B C D c d e g h i j l m o p q r s)
theorem aje:∀ (α:Type) (K:KT α),Uz z9 α K=J6.unc fun σ=>aF Pg HK sh5 aep K σ:=bM (fun α K=>by kernel_rfl)
def adg:ag:=ag.sub [1,1,1,1,1,1,1,1,1,1,0,1,0,0,1,0,0,1,0] (emb ac5)
abbrev NL:Type 1:=(α:Type)->Int->ae->(Int->Op α)->(Bool->Op α)->Op α
def LO (α:Type)(a:Int)(b:ae)(k1:Int->Op α)(k2:Bool->Op α):Op α:=
 cK (decide (a < ((List.length b:Nat):Int)))
 (gq b a [.int .i64]
 (fun c=>k1 c))
 (k2 (decide (a < ((List.length b:Nat):Int))))
def vy:NL:=sld LO
def JQ (v:NL)(α:Type)(K:KT α):Int->Int->ae->ae->Int->ae->Int->Int->Int->Int->ae->ae->Int->Int->Int->Int->Int->Int->Int->Int->Int->Int->Int->Int->ae->ae->ae->Op α:=fun a J d e g h i j l m b o p q r s t w z A B C D F G H I=>v α a b (fun c=>ai0 (K .normal) a c d e g h i j l m b o p q r s t w z A B C D F G H I) (fun c=>akv (K .normal) a J c d e g h i j l m b o p q r s t w z A B C D F G H I)
theorem akI:∀ (α:Type) (K:KT α),JQ vy α K=Gd.unc fun σ=>aF Pg HK sh5 adg K σ:=bM (fun α K=>by kernel_rfl)
def yU:ag:=ag.sub [1,1,1,1,1,1,1,1,1,1,0,1,0,0] (ag.put (.m [⟨Gd,JQ vy⟩]) [1,1,1,1,1,1,1,1,1,1,0,1,0,0,1,0,0,1] (emb ac5))
def BJ (α:Type)(l:ae)(a:Int)(b e:ae)(kn:Int->ae->ae->Op α)(k1:Op α)(k2:Int->Bool->ae->ae->Op α):Op α:=
 cK (decide (a < ((List.length b:Nat):Int)))
 (vy α a l
 (fun m=>ixK b a 5
 (ldK b (Int.toNat a) 2 [.int .i64]
 (fun o=>ixK b a 5
 (ldK b (Int.toNat a) 3 [.int .i64]
 (fun p=>cK (decide (p < o))
 (k1)
 (ixK b a 5
 (ldK b (Int.toNat a) 2 [.int .i64,.int .i64]
 (fun q r=>wJ α q r m
 (fun c=>ixK b a 5
 (stK b (Int.toNat a) 2 2
 (ixK (List.set b (Int.toNat a) (splice (cv b (Int.toNat a)) 2 [DC.v (.int .i64 c),DC.v (.int .i64 c)])) a 5
 (ldK (List.set b (Int.toNat a) (splice (cv b (Int.toNat a)) 2 [DC.v (.int .i64 c),DC.v (.int .i64 c)])) (Int.toNat a) 2 [.int .i64,.int .i64]
 (fun g h=>gK (fj 2 16 e [[DC.v (.int .i64 g),DC.v (.int .i64 h)]]) (kn (w64 (a+1)) (List.set b (Int.toNat a) (splice (cv b (Int.toNat a)) 2 [DC.v (.int .i64 c),DC.v (.int .i64 c)])) (e++[[DC.v (.int .i64 g),DC.v (.int .i64 h)]])))))))))))))))
 (fun A=>ixK b a 5
 (ldK b (Int.toNat a) 2 [.int .i64]
 (fun s=>ixK b a 5
 (ldK b (Int.toNat a) 3 [.int .i64]
 (fun t=>cK (decide (t < s))
 (k1)
 (ixK b a 5
 (ldK b (Int.toNat a) 2 [.int .i64,.int .i64]
 (fun w z=>wJ α w z 0
 (fun d=>ixK b a 5
 (stK b (Int.toNat a) 2 2
 (ixK (List.set b (Int.toNat a) (splice (cv b (Int.toNat a)) 2 [DC.v (.int .i64 d),DC.v (.int .i64 d)])) a 5
 (ldK (List.set b (Int.toNat a) (splice (cv b (Int.toNat a)) 2 [DC.v (.int .i64 d),DC.v (.int .i64 d)])) (Int.toNat a) 2 [.int .i64,.int .i64]
 (fun i j=>gK (fj 2 16 e [[DC.v (.int .i64 i),DC.v (.int .i64 j)]]) (kn (w64 (a+1)) (List.set b (Int.toNat a) (splice (cv b (Int.toNat a)) 2 [DC.v (.int .i64 d),DC.v (.int .i64 d)])) (e++[[DC.v (.int .i64 i),DC.v (.int .i64 j)]]))))))))))))))))
 (k2 a (decide (a < ((List.length b:Nat):Int))) b e)
def qV (α:Type)(a:ae)(k1:Op α)(k2:Int->Bool->ae->ae->Op α):Nat->Int->ae->ae->Op α
 | 0,_,_,_=>none
 | n+1,b,c,d=>BJ α a b c d (qV α a k1 k2 n) k1 k2
def PB (α:Type)(a:ae)(k1:Op α)(k2:Int->Bool->ae->ae->Op α)(b:Int)(c d:ae):Op α:=qV α a k1 k2 aN b c d
abbrev Oi:Type 1:=(α:Type)->ae->(Op α)->(Int->Bool->ae->ae->Op α)->Int->ae->ae->Op α
def Fb:Oi:=sld PB
def Xc (v:Oi)(α:Type)(K:KT α):Int->ae->ae->Int->ae->Int->Int->Int->Int->ae->ae->Int->Int->Int->Int->Int->Int->Int->Int->Int->Int->Int->Int->ae->ae->ae->Op α:=fun b c d e g h i j l a m o p q r s t w z A B C D F G H=>v α a (Ah (K .ret) false) (fun I J L M=>FP (K (.exit 0)) I J c d e g h i j l a L o p q r s t w z A B C D F M H) b m G
theorem aln (α:Type)(K:KT α)(Kn:SK α)(a:Int)(e g:ae)(h:Int)(i:ae)(j l m o:Int)(b c:ae)(p q r s t w z A B C D F:Int)(G d H:ae):JN (fun σ=>aF Pg HK sh5 yU (di (fun σ=>bR Bi σ Kn) K) σ) a e g h i j l m o b c p q r s t w z A B C D F G d H=BJ α b a c d (fun a c d=>JN Kn a e g h i j l m o b c p q r s t w z A B C D F G d H) (Ah (K .ret) false) (fun I J L M=>FP (K (.exit 0)) I J e g h i j l m o b L p q r s t w z A B C D F G M H):=by kernel_rfl
theorem akW (α:Type)(K:KT α):∀ (n:Nat) (b:Int) (e g:ae) (h:Int) (i:ae) (j l m o:Int) (a c:ae) (p q r s t w z A B C D F:Int) (G d H:ae),qV α a (Ah (K .ret) false) (fun I J L M=>FP (K (.exit 0)) I J e g h i j l m o a L p q r s t w z A B C D F G M H) n b c d=JN (aS (aF Pg HK sh5 yU) Bi K n) b e g h i j l m o a c p q r s t w z A B C D F G d H:=by
 intro n
 induction n with
 | zero=>intros;rfl
 | succ n ih=>intro b e g h i j l m o a c p q r s t w z A B C D F G d H;exact (congrArg (fun kn=>BJ α a b c d kn (Ah (K .ret) false) (fun I J L M=>FP (K (.exit 0)) I J e g h i j l m o a L p q r s t w z A B C D F G M H)) (funext fun b=>funext fun c=>funext fun d=>ih b e g h i j l m o a c p q r s t w z A B C D F G d H)).trans (aln α K (aS (aF Pg HK sh5 yU) Bi K n) b e g h i j l m o a c p q r s t w z A B C D F G d H).symm
theorem alP:∀ (α:Type) (K:KT α),Xc Fb α K=K5.unc fun σ=>aS (aF Pg HK sh5 yU) Bi K aN σ:=bM (fun α K=>funext fun a=>funext fun b=>funext fun c=>funext fun d=>funext fun e=>funext fun g=>funext fun h=>funext fun i=>funext fun j=>funext fun l=>funext fun m=>funext fun o=>funext fun p=>funext fun q=>funext fun r=>funext fun s=>funext fun t=>funext fun w=>funext fun z=>funext fun A=>funext fun B=>funext fun C=>funext fun D=>funext fun F=>funext fun G=>funext fun H=>akW α K aN a b c d e g h i j l m o p q r s t w z A B C D F G H)
abbrev aiv:Type 1:=(α:Type)->ae->ae->Int->ae->Int->Int->Int->Int->ae->Int->(Bool->Op α)->Op α
def ah0 (α:Type)(b c:ae)(d:Int)(a:ae)(e g q r:Int)(i:ae)(s:Int)(k1:Bool->Op α):Op α:=
 UW α
 (Dt α b c a
 (fun t=>cK (!t)
 (k1 true)
 (cK (decide (4 < ((List.length i:Nat):Int)))
 (k1 true)
 (cK (((List.length a:Nat):Int) == 0)
 (k1 true)
 (A8 α b c a
 (fun w z A=>wT α w z d A e g
 (fun B a5 a6 a7 C=>cK (C != 0)
 (k1 true)
 (cK (B != 2)
 (k1 true)
 (A8 α b c a
 (fun D F a8=>Cl α D F d
 (fun h G=>np [h]
 (cK (G != 0)
 (k1 false)
 (cK (((List.length h:Nat):Int) != ((List.length b:Nat):Int))
 (k1 false)
 (Di α s ((List.length a:Nat):Int)
 (fun H=>gq a H [.int .i64,.int .i64,.int .i64,.int .i64,.int .i64,.int .i64,.int .i64,.int .i64,.int .i64]
 (fun I J L M N O P Q R=>A8 α b c a
 (fun j a9 l=>Fb α i
 (k1 false)
 (fun b0 b1 T m=>wJ α O P q
 (fun o=>wJ α M N r
 (fun p=>CA α L p p J o o T e g
 (fun U V W X Y Z a0=>z9 α a0 I Q R U V W X Y Z
 (k1 false)
 (fun b2=>wT α j m d l e g
 (fun a1 b3 b4 b5 a2=>cK (a2 == 0)
 (k1 (a1 != 0))
 (k1 false)))
 (fun b6=>wT α j m d l e g
 (fun a3 b7 b8 b9 a4=>cK (a4 == 0)
 (k1 (a3 != 0))
 (k1 false))))))) 0 h ([]:ae))))))))))))))))))
def VI:aiv:=sld ah0
def ahL:PT (List DV):=pA [pV true [dL,dL,(dI .i64),dL,(dI .i64),(dI .i64)],pV true [(dI .i64),(dI .i64),dL],vI]
def aiu (v:aiv)(α:Type)(k:RT α):ae->ae->Int->ae->Int->Int->Int->Int->ae->Int->Op α:=fun a b c d e g h i j l=>v α a b c d e g h i j l (fun m=>bG k m)
def anz:ag:=(ag.put (.m [⟨K5,Xc Fb⟩]) [1,1,1,1,1,1,1,1,1,1,0,1,0] (ag.put (.m [⟨Gd,JQ vy⟩]) [1,1,1,1,1,1,1,1,1,1,0,1,0,0,1,0,0,1] (ag.put (.m [⟨J6,Uz z9⟩]) [1,1,1,1,1,1,1,1,1,1,1,1,1] (ag.put (.m [⟨FM,Ko wp⟩]) [1,1,1,1,1,1,1,1,1,1,1,1,1,0,1,0] (emb ac5)))))
theorem apY:al Pg 5 nt5 ⟨ahL,aiu VI⟩:=iZ atz (ah Tryz.func5 (by kernel_rfl)) sh5 anz ((aw _ _).trans ((aw _ _).trans ((aw _ _).trans ((aw _ _).trans (aG _))))) (bJ (td:=Bi) (by kernel_rfl) (aY (by kernel_rfl) (aY (by kernel_rfl) (aY (by kernel_rfl) (aM ac5) ⟨alc,TT⟩) ⟨aje,TT⟩) ⟨akI,TT⟩) ⟨alP,TT⟩) fun _ _=>by kernel_rfl
end
end Go.AM.K
