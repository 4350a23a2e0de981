/- Printed by KGen. -/
import Derived.Test.YtffcelhcekillaaGreatRg
namespace Go.AM.K
open Go.Proofs
set_option maxRecDepth 100000
set_option linter.unusedVariables false
noncomputable section
def NY:SG:=[(11,[.sl]),(19,[.sl,.sl,.int .i64,.int .i64]),(22,[.sl]),(24,iS 9),(25,iS 9),(31,[.bool]),(35,iS 3),(41,[.bool]),(47,[.sl])]
def aKf:TG:=[tT 0 [1,4],tT 1 [1,4,5],tT 2 [1,4,5,6],tT 3 [1,4,5,6,7],tT 4 [1,4,5,6,7,13],tT 6 [1,4,5,6,7,8],tT 7 [1,4,5,6,7,8],tT 8 [1,4,5,6,7,8,31],(9,⟨[2,3,4],true,[],[3]⟩),tT 10 [1,4,5,6,7,8],tT 11 [1,4,5,6,7],tT 5 [1,4,5,6,7],tT 12 [4,5,50],(13,⟨[2,3,4],true,[],[3]⟩),(14,⟨[2,3,4],true,[],[3]⟩)]
def aKx:TG:=[(4,⟨[1,4,5,6,7],true,[⟨false,5,0,20005,1⟩,⟨true,1,0,30100,9⟩,⟨true,1,1,30101,5⟩,⟨true,17,0,31700,1⟩],[]⟩)]
def abP:aq:=aw Pg Tryz.f37 aKf aKx
def uZ:OT:=tdC (ah.sub [1,1,1,0,1,0] (emb abP))
def A3:PT St:=pS [sP 1,sP 4,sl 5 (aV false [(dG 20005)]),sl 6 (aV false [(cD dB)]),sI 7,sl 8 (aV false [(cE 17 0)])] [au 1 [(cD dL),(cD dL),xI,xI],au 4 (xs 3),dE 20005 1,au 17 [Ls,(cD dB),xI,xI,xI,(cD dB)]]
def aIv {β:Type}(g:St->β):Bool->Int->ae->ae->Int->Int->Int->Int->Int->ae->Bool->Int->Int->Int->Bool->β:=A3.unc g
def aoS:PT St:=pS [sP 1,sP 4,sl 5 (aV false [(dG 20005)]),sl 6 (aV false [(cD dB)]),sI 7,sl 8 (aV false [(cE 17 0)])] [au 1 [(cD dL),(cD dL),xI,xI],au 4 (xs 3),dE 20005 1,au 17 [(cD dL),(cD dB),xI,xI,xI,(cD dB)]]
def UH {β:Type}(g:St->β):Bool->Int->ae->ae->Int->Int->Int->Int->Int->ae->ae->Bool->Int->Int->Int->Bool->β:=aoS.unc g
def ap1:PT St:=pS [sP 1,sP 4,sl 5 (aV false [(dG 20005)]),sl 6 (aV false [(cD dB)]),sI 7,sl 8 (aV false [(cE 17 0)])] [au 1 [(cD dL),(cD dL),xI,xI],au 4 (xs 3),dE 20005 1,au 17 [(dG 27),(cD dB),xI,xI,xI,(cD dB)],dE 27 1]
def Rq {β:Type}(g:St->β):Bool->Int->ae->ae->Int->Int->Int->Int->Int->ae->Bool->Int->Int->Int->Bool->ae->β:=ap1.unc g
def Av:PT St:=pS [sP 1,sP 4,sl 5 (aV false [(dG 20005)]),sl 6 (aV false [(cD dB)]),sI 7,sl 8 (aV false [(cE 17 0)]),sl 31 (aV false [(cD dB)])] [au 1 [(cD dL),(cD dL),xI,xI],au 4 (xs 3),dE 20005 1,au 17 [(cD dL),(cD dB),xI,xI,xI,(cD dB)]]
def aIo {β:Type}(g:St->β):Bool->Int->Bool->ae->ae->Int->Int->Int->Int->Int->ae->ae->Bool->Int->Int->Int->Bool->β:=Av.unc g
def AK:PT St:=pS [sP 1,sP 4,sl 5 (aV false [(dG 20005)]),sl 6 (aV false [(cD dB)]),sI 7,sl 8 (aV false [(cE 17 0)]),sl 31 (aV false [(cD dB)])] [au 1 [(cD dL),(cD dL),xI,xI],au 4 (xs 3),dE 20005 1,au 17 [(dG 27),(cD dB),xI,xI,xI,(cD dB)],dE 27 1]
def aIA {β:Type}(g:St->β):Bool->Int->Bool->ae->ae->Int->Int->Int->Int->Int->ae->Bool->Int->Int->Int->Bool->ae->β:=AK.unc g
def I0:PT St:=pS [sP 1,sP 4,sl 5 (aV false [(dG 20005)]),sl 6 (aV false [(cD dB)]),sI 7] [au 1 [(cD dL),(cD dL),xI,xI],au 4 (xs 3),dE 20005 1]
def IV {β:Type}(g:St->β):Bool->Int->ae->ae->Int->Int->Int->Int->Int->ae->β:=I0.unc g
def atp:PT St:=pS [sI 2,sl 3 (aV false [(cD dL)]),sP 4] [au 4 (xs 3)]
def ka {β:Type}(g:St->β):Int->ae->Int->Int->Int->β:=atp.unc g
def ara:PT St:=pS [sP 1,sP 4,sl 5 (aV false [(dG 20005)]),sl 6 (aV false [(cD dB)]),sI 7,sl 13 (aV false [(cD dB)])] [au 1 [(cD dL),(cD dL),xI,xI],au 4 (xs 3),dE 20005 1]
def z9 {β:Type}(g:St->β):Bool->Int->Bool->ae->ae->Int->Int->Int->Int->Int->ae->β:=ara.unc g
def adv:PT (List RV):=pRs [wI,pR false [rD dL],pR true [rD (dI .i64),rD (dI .i64),rD (dI .i64)]]
def N9 {β:Type}(g:List RV->β):Int->ae->Int->Int->Int->β:=adv.unc g
def zk:aF:=aF.ofIO (⟨74,109,[⟨ab2,alk NC⟩]⟩::Oh) bu io0
theorem ayx:zk.Ok Pg:=aF.ofIO_ok aN ⟨⟨azU,trivial⟩,O0⟩
def Mh:ah:=ah.sub [1,1,1,0,1,0,0,1,0,0,1,1,1,0] (emb abP)
abbrev Dn:Type 1:=(α:Type)->Bool->Bool->(Bool->Op α)->Op α
def Cn (α:Type)(a b:Bool)(k1:Bool->Op α):Op α:=
 cK a
 (k1 true)
 (k1 b)
def eW:Dn:=sld Cn
def JM (v:Dn)(α:Type)(K:KT α):Bool->Int->Bool->ae->ae->Int->Int->Int->Int->Int->ae->ae->Bool->Int->Int->Int->Bool->Op α:=fun b c w d e g h i j l m o p q r s a=>v α b a (fun t=>UH (K .normal) t c d e g h i j l m o p q r s a)
theorem anp:∀ (α:Type) (K:KT α),JM eW α K=Av.unc fun σ=>az Pg zk NY Mh K σ:=aZ (fun α K=>by kernel_rfl)
def Iy (v:Dn)(α:Type)(K:KT α):Bool->Int->Bool->ae->ae->Int->Int->Int->Int->Int->ae->Bool->Int->Int->Int->Bool->ae->Op α:=fun b c w d e g h i j l m o p q r a s=>v α b a (fun t=>Rq (K .normal) t c d e g h i j l m o p q r a s)
theorem am8:∀ (α:Type) (K:KT α),Iy eW α K=AK.unc fun σ=>az Pg zk NY Mh K σ:=aZ (fun α K=>by kernel_rfl)
def af6:ah:=ah.sub [1,1,1,0,1,0,0,1,0,0,1,0] (emb abP)
abbrev Mc:Type 1:=(α:Type)->Int->ae->ae->Int->Int->Bool->Int->Int->Int->Bool->(Bool->Int->Int->Int->Bool->Op α)->(Bool->Int->Int->Int->Bool->ae->Op α)->Op α
def MJ (α:Type)(a:Int)(b c:ae)(d e:Int)(g:Bool)(h i j:Int)(l:Bool)(k1:Bool->Int->Int->Int->Bool->Op α)(k2:Bool->Int->Int->Int->Bool->ae->Op α):Op α:=
 dT b a [.int .i64,.int .i64,.int .i64,.int .i64,.int .i64,.int .i64,.int .i64,.int .i64,.int .i64]
 (fun H I J m o p q L M=>LT α
 (NC α g h i j l b c d e a p q m o 0
 (fun r s t w z=>k1 r s t w z)
 (fun A B C D F G=>k2 B C D F G A)))
def tN:Mc:=sld MJ
def K0 (v:Mc)(α:Type)(K:KT α):Bool->Int->ae->ae->Int->Int->Int->Int->Int->ae->Bool->Int->Int->Int->Bool->Op α:=fun m a b c d e o p q r s t w z A=>v α a b c d e s t w z A (fun g h i j l=>UH (K .normal) m a b c d e o p q r ([]:ae) g h i j l) (fun g h i j l B=>Rq (K .normal) m a b c d e o p q r g h i j l B)
theorem at4:∀ (α:Type) (K:KT α),K0 tN α K=A3.unc fun σ=>az Pg zk NY af6 K σ:=aZ (fun α K=>by kernel_rfl)
def vz:ah:=ah.sub [1,1,1,0,1,0,0] (ah.put (.m [⟨A3,K0 tN⟩]) [1,1,1,0,1,0,0,1,0,0,1] (ah.put (.m [⟨Av,JM eW⟩,⟨AK,Iy eW⟩]) [1,1,1,0,1,0,0,1,0,0,1,1,1] (emb abP)))
def wh (α:Type)(c g:ae)(h i:Int)(d:Bool)(a:Int)(b:ae)(kn:Bool->Int->ae->Op α)(k1:Int->Int->Int->Op α)(k2:Bool->Int->Bool->ae->Op α):Op α:=
 cK (decide (a < ((List.length c:Nat):Int)))
 (tN α a c g h i false 0 0 0 false
 (fun j l m o p=>cK j
 (k1 l m o)
 (eW α d p
 (fun q=>gK (dH 1 24 b [[DC.sl ([]:ae)]]) (kn q (w64 (a+1)) (b++[[DC.sl ([]:ae)]])))))
 (fun r s t w z e=>cK r
 (k1 s t w)
 (eW α d z
 (fun A=>gK (dH 1 24 b [[DC.sl e]]) (kn A (w64 (a+1)) (b++[[DC.sl e]]))))))
 (k2 d a (decide (a < ((List.length c:Nat):Int))) b)
def mA (α:Type)(a b:ae)(c d:Int)(k1:Int->Int->Int->Op α)(k2:Bool->Int->Bool->ae->Op α):Nat->Bool->Int->ae->Op α
 | 0,_,_,_=>none
 | n+1,e,g,h=>wh α a b c d e g h (mA α a b c d k1 k2 n) k1 k2
def ME (α:Type)(a b:ae)(c d:Int)(k1:Int->Int->Int->Op α)(k2:Bool->Int->Bool->ae->Op α)(e:Bool)(g:Int)(h:ae):Op α:=mA α a b c d k1 k2 aE e g h
abbrev Lz:Type 1:=(α:Type)->ae->ae->Int->Int->(Int->Int->Int->Op α)->(Bool->Int->Bool->ae->Op α)->Bool->Int->ae->Op α
def AT:Lz:=sld ME
def VS (v:Lz)(α:Type)(K:KT α):Bool->Int->ae->ae->Int->Int->Int->Int->Int->ae->Op α:=fun i j d e g h l m o p=>v α d e g h (fun a b c=>ka (K .ret) 0 ([]:ae) a b c) (fun a b c q=>z9 (K (.exit 0)) a b c d e g h l m o q) i j p
theorem aqe (α:Type)(K:KT α)(Kn:SK α)(a:Bool)(b:Int)(c d:ae)(e g i j l:Int)(h:ae):IV (fun σ=>az Pg zk NY vz (bI (fun σ=>br uZ σ Kn) K) σ) a b c d e g i j l h=wh α c d e g a b h (fun a b h=>IV Kn a b c d e g i j l h) (fun m o p=>ka (K .ret) 0 ([]:ae) m o p) (fun m o p q=>z9 (K (.exit 0)) m o p c d e g i j l q):=by kernel_rfl
theorem atZ (α:Type)(K:KT α):∀ (n:Nat) (e:Bool) (g:Int) (a b:ae) (c d m o p:Int) (h:ae),mA α a b c d (fun i j l=>ka (K .ret) 0 ([]:ae) i j l) (fun i j l q=>z9 (K (.exit 0)) i j l a b c d m o p q) n e g h=IV (aJ (az Pg zk NY vz) uZ K n) e g a b c d m o p h:=by
 intro n
 induction n with
 | zero=>intros;rfl
 | succ n ih=>intro e g a b c d m o p h;exact (congrArg (fun kn=>wh α a b c d e g h kn (fun i j l=>ka (K .ret) 0 ([]:ae) i j l) (fun i j l q=>z9 (K (.exit 0)) i j l a b c d m o p q)) (funext fun e=>funext fun g=>funext fun h=>ih e g a b c d m o p h)).trans (aqe α K (aJ (az Pg zk NY vz) uZ K n) e g a b c d m o p h).symm
theorem at8:∀ (α:Type) (K:KT α),VS AT α K=I0.unc fun σ=>aJ (az Pg zk NY vz) uZ K aE σ:=aZ (fun α K=>funext fun a=>funext fun b=>funext fun c=>funext fun d=>funext fun e=>funext fun g=>funext fun h=>funext fun i=>funext fun j=>funext fun l=>atZ α K aE a b c d e g h i j l)
abbrev Jl:Type 1:=(α:Type)->ae->ae->Int->Int->(Int->ae->Int->Int->Int->Op α)->Op α
def ai2 (α:Type)(a b:ae)(c d:Int)(k1:Int->ae->Int->Int->Int->Op α):Op α:=
 AT α a b c d
 (fun e g h=>k1 0 ([]:ae) e g h)
 (fun i l m j=>cK i
 (k1 1 ([]:ae) 0 0 0)
 (k1 2 j 0 0 0)) false 0 ([]:ae)
def Hl:Jl:=sld ai2
def aiM (v:Jl)(α:Type)(k:RT α):ae->ae->Int->Int->Op α:=fun a b c d=>v α a b c d (fun e g h i j=>N9 k e g h i j)
def ayw:ah:=(ah.put (.m [⟨I0,VS AT⟩]) [1,1,1,0,1,0] (ah.put (.m [⟨A3,K0 tN⟩]) [1,1,1,0,1,0,0,1,0,0,1] (ah.put (.m [⟨Av,JM eW⟩,⟨AK,Iy eW⟩]) [1,1,1,0,1,0,0,1,0,0,1,1,1] (emb abP))))
theorem axd:ak Pg 37 54 ⟨kZ,aiM Hl⟩:=iZ ayx (ag Tryz.func37 (by kernel_rfl)) NY ayw ((am _ _).trans ((am _ _).trans ((am _ _).trans (aA _)))) (aW (td:=uZ) (by kernel_rfl) (aM (by kernel_rfl) (aM (by kernel_rfl) (aD abP) ⟨anp,am8,trivial⟩) ⟨at4,trivial⟩) ⟨at8,trivial⟩) fun _ _=>by kernel_rfl
def aI7:SG:=[(10,[.sl,.sl,.int .i64,.int .i64]),(12,iS 9),(13,iS 4),(23,iS 2),(25,iS 2),(27,iS 2),(31,iT)]
def aIX:TG:=[tT 0 [2,3,4],tT 1 [2,4,6,7],tT 2 [2,4,6,7,19],tT 3 [4,5],tT 4 [4,5]]
def aIG:aq:=aw Pg Tryz.f82 aIX aC
noncomputable abbrev axl:List bC:=⟨106,123,[⟨eV,QY DP⟩]⟩::⟨37,54,[⟨kZ,aiM Hl⟩]⟩::Oh
theorem aHX:bH axl fun c=>bH c.l (ak Pg c.f c.nt):=⟨⟨arW,trivial⟩,⟨axd,trivial⟩,O0⟩
def aKL:aF:=aF.ofIO axl bu io0
theorem aCW:aKL.Ok Pg:=aF.ofIO_ok aN aHX
def akJ (α:Type)(c:ae)(d e a g h i j l m:Int)(k1:Int->Int->Int->Op α):Op α:=
 G7 α
 (DP α h l m g i j c d e
 (fun o p q r s t b=>cK (b != 0)
 (k1 0 0 b)
 (cK (a == 2)
 (k1 s t 0)
 (cK (a == 1)
 (k1 q r 0)
 (cK (a == 0)
 (k1 o p 0)
 (none))))))
def Ms:z3:=sld akJ
def Ir:PT (List DV):=pA [pV true [dL,dL,(dI .i64),(dI .i64),(dI .i64),(dI .i64),(dI .i64),(dI .i64),(dI .i64),(dI .i64),(dI .i64),(dI .i64),(dI .i64)],pV true [(dI .i64),(dI .i64),(dI .i64),(dI .i64)]]
def akG (v:z3)(α:Type)(k:RT α):ae->ae->I15 (Op α):=fun q a b c d e g r s t w z A h i j l=>v α a b c d e g h i j l (fun m o p=>jk k m o p)
theorem aya:ak Pg 82 33 ⟨Ir,akG Ms⟩:=iP aCW aIG (ag Tryz.func82 (by kernel_rfl)) aI7 fun _ _=>by kernel_rfl
def aJ0:SG:=[(14,[.sl,.sl,.int .i64,.sl,.int .i64,.int .i64]),(23,[.sl]),(26,iS 2),(29,[.sl,.sl,.int .i64,.int .i64]),(38,[.sl,.sl,.int .i64,.int .i64]),(44,iS 3)]
def aKt:TG:=[tT 0 [1,3],tT 1 [1,3,5,6],tT 2 [1,3,5,6,19],tT 3 [2,3,4],tT 4 [3,7],tT 5 [3,7,9],tT 6 [3,7,9,34],tT 7 [2,3,4],tT 8 [3,10,12],tT 9 [2,3,4]]
def aK9:aq:=aw Pg Tryz.f13 aKt aC
def ahu:PT (List RV):=pRs [wI,pR true [rD (dI .i64),rD (dI .i64),rD (dI .i64)],wI]
def Ox {β:Type}(g:List RV->β):I5 β:=ahu.unc g
abbrev KV:Type 1:=(α:Type)->ae->ae->Int->ae->Int->Int->(I5 (Op α))->Op α
def acn (α:Type)(h i:ae)(j:Int)(a:ae)(b c:Int)(k1:I5 (Op α)):Op α:=
 Gc α h i j
 (fun d e=>cK (e != 0)
 (k1 0 0 0 0 e)
 (M3 α a d b c
 (fun q g=>cK (g != 0)
 (k1 0 0 0 0 g)
 (Hl α a d b c
 (fun l r m o p=>k1 l m o p 0)))))
def LI:KV:=sld acn
def af1 (v:KV)(α:Type)(k:RT α):ae->ae->Int->ae->Int->Int->Op α:=fun a b c d e g=>v α a b c d e g (fun h i j l m=>Ox k h i j l m)
theorem azD:ak Pg 13 45 ⟨eN,af1 LI⟩:=iP aCW aK9 (ag Tryz.func13 (by kernel_rfl)) aJ0 fun _ _=>by kernel_rfl
def aFy:SG:=[(12,[.sl,.sl,.int .i64,.int .i64,.int .i64,.int .i64,.int .i64,.int .i64,.int .i64,.int .i64,.int .i64,.int .i64,.int .i64]),(13,iS 4),(18,iT),(21,iT),(25,iT),(29,iT)]
def aKm:TG:=[tT 0 [2,3],tT 1 [2,5,6],tT 2 [6,7,8,9,10],tT 3 [7,8,9,10,31],tT 4 [4],tT 5 [7,8,9,10,34],tT 6 [4],tT 7 [43],tT 8 [4],tT 9 [4]]
def awA:aq:=aw Pg Tryz.f42 aKm aC
def In:PT St:=pS [sI 7,sI 8,sI 9,sI 10,sl 31 (aV false [(cD dB)])] []
def aIq {β:Type}(g:St->β):Int->Int->Int->Int->Bool->β:=In.unc g
def as6:PT St:=pS [sI 7,sI 8,sI 9,sI 10,sl 34 (aV false [(cD dB)])] []
def atg {β:Type}(g:St->β):Int->Int->Int->Int->Bool->β:=as6.unc g
noncomputable abbrev azK:List bC:=⟨82,33,[⟨Ir,akG Ms⟩]⟩::⟨13,45,[⟨eN,af1 LI⟩]⟩::axl
theorem aC6:bH azK fun c=>bH c.l (ak Pg c.f c.nt):=⟨⟨aya,trivial⟩,⟨azD,trivial⟩,aHX⟩
def aET:aF:=aF.ofIO azK bu io0
theorem aBF:aET.Ok Pg:=aF.ofIO_ok aN aC6
def afu:ah:=ah.sub [1,1,1,0,0,1,1,0] (emb awA)
def Mi (α:Type)(a b c d:Int)(k1:Bool->Op α):Op α:=
 cK (decide (c<=a))
 (k1 (decide (b<=d)))
 (k1 false)
def wn:f4:=sld Mi
def WH (v:f4)(α:Type)(K:KT α):I4 (Bool->Op α):=fun a b c d g=>v α a b c d (fun e=>atg (K .normal) a b c d e)
theorem aoW:∀ (α:Type) (K:KT α),WH wn α K=In.unc fun σ=>az Pg aET aFy afu K σ:=aZ (fun α K=>by kernel_rfl)
def afU (α:Type)(e:ae)(g h i j l a b m o p q:Int)(k1:Int->Op α):Op α:=
 Ms α e g h i j l m o p q
 (fun c d r=>cK (r != 0)
 (k1 1)
 (wn α (w64 (c*10000)) (w64 (d*10000)) (w64 (a*1048576)) (w64 (b*1048576))
 (fun s=>cK s
 (k1 2)
 (cK (decide ((w64 (d*10000)) < (w64 (a*1048576))))
 (k1 0)
 (cK (decide ((w64 (b*1048576)) < (w64 (c*10000))))
 (k1 0)
 (k1 1))))))
def iI:AD:=sld afU
def af4 (v:AD)(α:Type)(k:RT α):ae->ae->I15 (Op α):=fun q a b c d e g r s t w h i j l m o=>v α a b c d e g h i j l m o (fun p=>aR k p)
def axU:ah:=(ah.put (.m [⟨In,WH wn⟩]) [1,1,1,0,0,1,1] (emb awA))
theorem ayp:ak Pg 42 52 ⟨Ir,af4 iI⟩:=iZ aBF (ag Tryz.func42 (by kernel_rfl)) aFy axU ((am _ _).trans (aA _)) (aM (by kernel_rfl) (aD awA) ⟨aoW,trivial⟩) fun _ _=>by kernel_rfl
def aD4:SG:=[(7,[.sl,.sl,.int .i64,.sl,.int .i64,.int .i64])]
def aJv:TG:=[tT 0 [1],tT 1 [3,5],tT 2 [2]]
def aKD:aq:=aw Pg Tryz.f34 aJv aC
abbrev JQ:Type 1:=(α:Type)->ae->ae->Int->ae->Int->Int->(Bool->Op α)->Op α
def akC (α:Type)(a b:ae)(c:Int)(d:ae)(e g:Int)(k1:Bool->Op α):Op α:=
 LI α a b c d e g
 (fun h j l m i=>cK (i == 0)
 (k1 (h == 2))
 (k1 false))
def HK:JQ:=sld akC
def aeD (v:JQ)(α:Type)(k:RT α):ae->ae->Int->ae->Int->Int->Op α:=fun a b c d e g=>v α a b c d e g (fun h=>bi k h)
theorem axw:ak Pg 34 18 ⟨eN,aeD HK⟩:=iP aBF aKD (ag Tryz.func34 (by kernel_rfl)) aD4 fun _ _=>by kernel_rfl
def zv:SG:=[(14,[.sl,.sl,.int .i64,.int .i64,.int .i64,.int .i64,.int .i64,.int .i64,.int .i64,.int .i64,.int .i64,.int .i64,.int .i64]),(15,iS 4),(22,[.sl]),(28,iS 2),(31,iS 2),(37,[.sl,.sl,.int .i64,.int .i64,.int .i64,.int .i64,.int .i64,.int .i64,.int .i64,.int .i64,.int .i64,.int .i64,.int .i64]),(39,iT),(41,iT),(48,iS 4),(63,[.sl]),(70,iS 4),(77,iS 4),(84,iS 4)]
def aJp:TG:=[tT 0 [0,2,4],tT 1 [0,2,4,17],tT 2 [0],tT 3 [0,6],tT 4 [0,2,4,7],tT 5 [0,2,4,7,44],tT 6 [0],tT 7 [0,6],tT 8 [0,2,4,8],tT 9 [0,2,4,8,55],tT 10 [0],tT 11 [0,6],tT 12 [0,2,4,8],tT 13 [0,2,9],tT 14 [0,6]]
def Iz:aq:=aw Pg Tryz.f96 aJp aC
def nj:PT St:=pSv [(0,500000000,0)] [sl 0 (aV false [(cE 500000000 0)]),sI 2,sP 4,sI 8] [au 500000000 [(cD dL),(cD dL),xI,xI,xI,xI,xI,xI,xI,xI,xI,xI,xI,(dG 500000014),(cD dNP),(cD dB)],dE 500000014 1,au 4 (xs 4)]
def aIB {β:Type}(g:St->β):Int->Int->ae->ae->Int->Int->Int->Int->Int->Int->Int->Int->Int->Int->Int->Bool->ae->I4 β:=nj.unc g
def anr:PT St:=pSv [(0,500000000,0)] [sl 0 (aV false [(cE 500000000 0)]),sI 2,sP 4,sI 8,sl 55 (aV false [(cD dB)])] [au 500000000 [(cD dL),(cD dL),xI,xI,xI,xI,xI,xI,xI,xI,xI,xI,xI,(dG 500000014),(cD dNP),(cD dB)],dE 500000014 1,au 4 (xs 4)]
def ape {β:Type}(g:St->β):Int->Int->Bool->ae->ae->Int->Int->Int->Int->Int->Int->Int->Int->Int->Int->Int->Bool->ae->I4 β:=anr.unc g
def ajj:PT (List RV):=pRs [pR false [rD dB],pR true [rD dL,rD dL,rD (dI .i64),rD (dI .i64),rD (dI .i64),rD (dI .i64),rD (dI .i64),rD (dI .i64),rD (dI .i64),rD (dI .i64),rD (dI .i64),rD (dI .i64),rD (dI .i64),rO 1,rD dNP,rD dB]]
def mi {β:Type}(g:List RV->β):Bool->ae->ae->Int->Int->Int->Int->Int->Int->Int->Int->Int->Int->Int->ae->Bool->β:=ajj.unc g
def aeM:PT (List RV):=pRs [pR false [rD dB],pR true [rD dL,rD dL,rD (dI .i64),rD (dI .i64),rD (dI .i64),rD (dI .i64),rD (dI .i64),rD (dI .i64),rD (dI .i64),rD (dI .i64),rD (dI .i64),rD (dI .i64),rD (dI .i64),rO 1,rD (dP [(dI .i64),(dI .i64)] 0),rD dB]]
def lr {β:Type}(g:List RV->β):Bool->ae->ae->Int->Int->Int->Int->Int->Int->Int->Int->Int->Int->Int->ae->Int->Int->Bool->β:=aeM.unc g
noncomputable abbrev axv:List bC:=⟨42,52,[⟨Ir,af4 iI⟩]⟩::⟨34,18,[⟨eN,aeD HK⟩]⟩::azK
theorem aBe:bH axv fun c=>bH c.l (ak Pg c.f c.nt):=⟨⟨ayp,trivial⟩,⟨axw,trivial⟩,aC6⟩
def az6:aF:=aF.ofIO axv bu io0
theorem aI2:az6.Ok Pg:=aF.ofIO_ok aN aBe
def lL:ah:=ah.sub [1,1,1,1,0,0] (emb Iz)
def jv (α:Type)(a b:Int)(k1:Bool->Op α):Op α:=
 cK (a == 5)
 (k1 true)
 (k1 (b == 0))
def ch:cY:=sld jv
def ra (v:cY)(α:Type)(K:KT α):Int->Int->ae->ae->Int->Int->Int->Int->Int->Int->Int->Int->Int->Int->Int->Bool->ae->I4 (Op α):=fun a b c d e g h i j l m o p q r s t w z A B=>v α a b (fun C=>ape (K .normal) a b C c d e g h i j l m o p q r s t w z A B)
theorem arx:∀ (α:Type) (K:KT α),ra ch α K=nj.unc fun σ=>az Pg az6 zv lL K σ:=aZ (fun α K=>by kernel_rfl)
abbrev OX:Type 1:=(α:Type)->ae->Int->Int->Int->Int->Int->Int->Int->ae->Bool->Int->Int->Int->Int->Int->(ae->Bool->Op α)->(Int->Int->Op α)->Op α
def ahM (α:Type)(j:ae)(l m o p q r s:Int)(a:ae)(t:Bool)(b c d e w:Int)(k1:ae->Bool->Op α)(k2:Int->Int->Op α):Op α:=
 iI α j l m o p q r s b c d e
 (fun z=>cK (z == 2)
 (gK (dH 1 8 a [[DC.v (.int .i64 0)]]) (k1 (a++[[DC.v (.int .i64 0)]]) t))
 (gh α b c
 (fun g=>gh α d e
 (fun h=>ug α
 (iI α j l m o p q r s g g h h
 (fun A=>cK (A == 0)
 (k2 g h)
 (mR α b c d e
 (fun i=>ch α w i
 (fun B=>cK B
 (k1 a true)
 (gK (dH 1 8 a [[DC.v (.int .i64 i)]]) (mB α b c d e i
 (fun C D F G H=>none))))))))))))
def DF:OX:=sld ahM
def la:PT (List DV):=pA [pV false [(dMr [dL,dL,(dI .i64),(dI .i64),(dI .i64),(dI .i64),(dI .i64),(dI .i64),(dI .i64),(dI .i64),(dI .i64),(dI .i64),(dI .i64),(dOs 1),dNP,dB] 0)],pV true [(dI .i64),(dI .i64),(dI .i64),(dI .i64)],vI]
def agf (v:OX)(α:Type)(k:RT α):ae->ae->Int->Int->Int->Int->Int->Int->Int->Int->Int->Int->Int->ae->Bool->I5 (Op α):=fun m a b c d e g o p q r h i s t w z A B C=>v α a b c d e g h i s t w z A B C (fun j l=>mi k true m a b c d e g o p q r h i j l) (fun j l=>lr k false m a b c d e g o p q r h i s j l t)
def Br:ah:=(ah.put (.m [⟨nj,ra ch⟩]) [1,1,1,1,0] (emb Iz))
theorem ay7:ak Pg 96 89 ⟨la,agf DF⟩:=iZ aI2 (ag Tryz.func96 (by kernel_rfl)) zv Br ((am _ _).trans (aA _)) (aM (by kernel_rfl) (aD Iz) ⟨arx,trivial⟩) fun _ _=>by kernel_rfl
noncomputable abbrev Mv:List bC:=⟨96,89,[⟨la,agf DF⟩]⟩::axv
theorem ON:bH Mv fun c=>bH c.l (ak Pg c.f c.nt):=⟨⟨ay7,trivial⟩,aBe⟩
def E4:aF:=aF.ofIO Mv bu io0
theorem aBT:E4.Ok Pg:=aF.ofIO_ok aN ON
theorem as1:∀ (α:Type) (K:KT α),ra ch α K=nj.unc fun σ=>az Pg E4 zv lL K σ:=aZ (fun α K=>by kernel_rfl)
abbrev m6:Type 1:=(α:Type)->ae->Int->Int->Int->Int->Int->Int->Int->ae->Bool->Int->Int->Int->Int->Int->(ae->Bool->Op α)->(ae->Int->Int->Bool->Op α)->Op α
def ayM (α:Type)(h:ae)(i j l m o p q:Int)(a:ae)(r:Bool)(b c d e s:Int)(k1:ae->Bool->Op α)(k2:ae->Int->Int->Bool->Op α):Op α:=
 iI α h i j l m o p q b c d e
 (fun B=>cK (B == 2)
 (gK (dH 1 8 a [[DC.v (.int .i64 0)]]) (k1 (a++[[DC.v (.int .i64 0)]]) r))
 (gh α b c
 (fun t=>gh α d e
 (fun w=>ug α
 (iI α h i j l m o p q t t w w
 (fun C=>cK (C == 0)
 (k2 a t w r)
 (mR α b c d e
 (fun g=>ch α s g
 (fun D=>cK D
 (k1 a true)
 (gK (dH 1 8 a [[DC.v (.int .i64 g)]]) (mB α b c d e g
 (fun F G H I Q=>DF α h i j l m o p q (a++[[DC.v (.int .i64 g)]]) r b F d G (w64 (s+1))
 (fun z A=>DF α h i j l m o p q z A H c I e (w64 (s+1))
 (fun J L=>k1 J L)
 (fun M N=>k2 z M N A))
 (fun O P=>k2 (a++[[DC.v (.int .i64 g)]]) O P r)))))))))))))
def Hx:m6:=sld ayM
def agR (v:m6)(α:Type)(k:RT α):ae->ae->Int->Int->Int->Int->Int->Int->Int->Int->Int->Int->Int->ae->Bool->I5 (Op α):=fun m a b c d e g o p q r h i s t w z A B C=>v α a b c d e g h i s t w z A B C (fun j l=>mi k true m a b c d e g o p q r h i j l) (fun j l D F=>lr k false m a b c d e g o p q r h i j l D F)
theorem ayh:ak Pg 96 89 ⟨la,agR Hx⟩:=iZ aBT (ag Tryz.func96 (by kernel_rfl)) zv Br ((am _ _).trans (aA _)) (aM (by kernel_rfl) (aD Iz) ⟨as1,trivial⟩) fun _ _=>by kernel_rfl
def avg:aF:=aF.ofIO (⟨96,89,[⟨la,agR Hx⟩]⟩::Mv) bu io0
theorem ayy:avg.Ok Pg:=aF.ofIO_ok aN ⟨⟨ayh,trivial⟩,ON⟩
theorem ate:∀ (α:Type) (K:KT α),ra ch α K=nj.unc fun σ=>az Pg avg zv lL K σ:=aZ (fun α K=>by kernel_rfl)
def axD (vv:m6)(α:Type)(g:ae)(h i j l m o p:Int)(a:ae)(r:Bool)(b c d e s:Int)(k1:ae->Bool->Op α)(k2:ae->Int->Int->Bool->Op α):Op α:=
 iI α g h i j l m o p b c d e
 (fun z=>cK (z == 2)
 (gK (dH 1 8 a [[DC.v (.int .i64 0)]]) (k1 (a++[[DC.v (.int .i64 0)]]) r))
 (gh α b c
 (fun t=>gh α d e
 (fun w=>ug α
 (iI α g h i j l m o p t t w w
 (fun A=>cK (A == 0)
 (k2 a t w r)
 (mR α b c d e
 (fun q=>ch α s q
 (fun B=>cK B
 (k1 a true)
 (gK (dH 1 8 a [[DC.v (.int .i64 q)]]) (mB α b c d e q
 (fun C D F G V=>vv α g h i j l m o p (a++[[DC.v (.int .i64 q)]]) r b C d D (w64 (s+1))
 (fun H I=>vv α g h i j l m o p H I F c G e (w64 (s+1))
 (fun J L=>k1 J L)
 (fun M N O P=>k2 M N O P))
 (fun Q R T U=>k2 Q R T U)))))))))))))
def ayW:=axD Hx
def HI:m6:=sld ayW
def akL (v:m6)(α:Type)(k:RT α):ae->ae->Int->Int->Int->Int->Int->Int->Int->Int->Int->Int->Int->ae->Bool->I5 (Op α):=fun m a b c d e g o p q r h i s t w z A B C=>v α a b c d e g h i s t w z A B C (fun j l=>mi k true m a b c d e g o p q r h i j l) (fun j l D F=>lr k false m a b c d e g o p q r h i j l D F)
theorem awR:ak Pg 96 89 ⟨la,akL HI⟩:=iZ ayy (ag Tryz.func96 (by kernel_rfl)) zv Br ((am _ _).trans (aA _)) (aM (by kernel_rfl) (aD Iz) ⟨ate,trivial⟩) fun _ _=>by kernel_rfl
def awa:aF:=aF.ofIO (⟨96,89,[⟨la,akL HI⟩]⟩::Mv) bu io0
theorem ax5:awa.Ok Pg:=aF.ofIO_ok aN ⟨⟨awR,trivial⟩,ON⟩
theorem aqI:∀ (α:Type) (K:KT α),ra ch α K=nj.unc fun σ=>az Pg awa zv lL K σ:=aZ (fun α K=>by kernel_rfl)
def azQ:=axD HI
def FX:m6:=sld azQ
def ahV (v:m6)(α:Type)(k:RT α):ae->ae->Int->Int->Int->Int->Int->Int->Int->Int->Int->Int->Int->ae->Bool->I5 (Op α):=fun m a b c d e g o p q r h i s t w z A B C=>v α a b c d e g h i s t w z A B C (fun j l=>mi k true m a b c d e g o p q r h i j l) (fun j l D F=>lr k false m a b c d e g o p q r h i j l D F)
theorem ax1:ak Pg 96 89 ⟨la,ahV FX⟩:=iZ ax5 (ag Tryz.func96 (by kernel_rfl)) zv Br ((am _ _).trans (aA _)) (aM (by kernel_rfl) (aD Iz) ⟨aqI,trivial⟩) fun _ _=>by kernel_rfl
def avn:aF:=aF.ofIO (⟨96,89,[⟨la,ahV FX⟩]⟩::Mv) bu io0
theorem ays:avn.Ok Pg:=aF.ofIO_ok aN ⟨⟨ax1,trivial⟩,ON⟩
theorem asv:∀ (α:Type) (K:KT α),ra ch α K=nj.unc fun σ=>az Pg avn zv lL K σ:=aZ (fun α K=>by kernel_rfl)
def awo:=axD FX
def wT:m6:=sld awo
def ab8 (v:m6)(α:Type)(k:RT α):ae->ae->Int->Int->Int->Int->Int->Int->Int->Int->Int->Int->Int->ae->Bool->I5 (Op α):=fun m a b c d e g o p q r h i s t w z A B C=>v α a b c d e g h i s t w z A B C (fun j l=>mi k true m a b c d e g o p q r h i j l) (fun j l D F=>lr k false m a b c d e g o p q r h i j l D F)
theorem ayG:ak Pg 96 89 ⟨la,ab8 wT⟩:=iZ ays (ag Tryz.func96 (by kernel_rfl)) zv Br ((am _ _).trans (aA _)) (aM (by kernel_rfl) (aD Iz) ⟨asv,trivial⟩) fun _ _=>by kernel_rfl
def JC:PT St:=pSv [(0,500000000,0)] [sl 0 (aV false [(cE 500000000 0)]),sI 2,sP 4,sI 8] [au 500000000 [(cD dL),(cD dL),xI,xI,xI,xI,xI,xI,xI,xI,xI,xI,xI,Ls,(cD dNP),(cD dB)],au 4 (xs 4)]
def aIt {β:Type}(g:St->β):Int->Int->ae->ae->Int->Int->Int->Int->Int->Int->Int->Int->Int->Int->Int->Bool->I4 β:=JC.unc g
def ao0:PT St:=pSv [(0,500000000,0)] [sl 0 (aV false [(cE 500000000 0)]),sI 2,sP 4,sI 8,sl 55 (aV false [(cD dB)])] [au 500000000 [(cD dL),(cD dL),xI,xI,xI,xI,xI,xI,xI,xI,xI,xI,xI,Ls,(cD dNP),(cD dB)],au 4 (xs 4)]
def amt {β:Type}(g:St->β):Int->Int->Bool->ae->ae->Int->Int->Int->Int->Int->Int->Int->Int->Int->Int->Int->Bool->I4 β:=ao0.unc g
def acq:PT (List RV):=pRs [pR false [rD dB],pR true [rD dL,rD dL,rD (dI .i64),rD (dI .i64),rD (dI .i64),rD (dI .i64),rD (dI .i64),rD (dI .i64),rD (dI .i64),rD (dI .i64),rD (dI .i64),rD (dI .i64),rD (dI .i64),rD dL,rD (dP [(dI .i64),(dI .i64)] 0),rD dB]]
def ahx {β:Type}(g:List RV->β):Bool->ae->ae->Int->Int->Int->Int->Int->Int->Int->Int->Int->Int->Int->ae->Int->Int->Bool->β:=acq.unc g
def adk:PT (List RV):=pRs [pR false [rD dB],pR true [rD dL,rD dL,rD (dI .i64),rD (dI .i64),rD (dI .i64),rD (dI .i64),rD (dI .i64),rD (dI .i64),rD (dI .i64),rD (dI .i64),rD (dI .i64),rD (dI .i64),rD (dI .i64),rD dL,rD dNP,rD dB]]
def afR {β:Type}(g:List RV->β):Bool->ae->ae->Int->Int->Int->Int->Int->Int->Int->Int->Int->Int->Int->ae->Bool->β:=adk.unc g
def awb:aF:=aF.ofIO (⟨96,89,[⟨la,ab8 wT⟩]⟩::Mv) bu io0
theorem axP:awb.Ok Pg:=aF.ofIO_ok aN ⟨⟨ayG,trivial⟩,ON⟩
def Rj (v:cY)(α:Type)(K:KT α):Int->Int->ae->ae->Int->Int->Int->Int->Int->Int->Int->Int->Int->Int->Int->Bool->I4 (Op α):=fun a b c d e g h i j l m o p q r s t w z A=>v α a b (fun B=>amt (K .normal) a b B c d e g h i j l m o p q r s t w z A)
theorem arT:∀ (α:Type) (K:KT α),Rj ch α K=JC.unc fun σ=>az Pg awb zv lL K σ:=aZ (fun α K=>by kernel_rfl)
abbrev agx:Type 1:=(α:Type)->ae->Int->Int->Int->Int->Int->Int->Int->Bool->Int->Int->Int->Int->Int->(ae->Bool->Op α)->(Int->Int->Op α)->(Op α)->(ae->Int->Int->Bool->Op α)->Op α
def alr (α:Type)(e:ae)(g h i j l m o:Int)(t:Bool)(a b c d p:Int)(k1:ae->Bool->Op α)(k2:Int->Int->Op α)(k3:Op α)(k4:ae->Int->Int->Bool->Op α):Op α:=
 iI α e g h i j l m o a b c d
 (fun w=>cK (w == 2)
 (k1 [[DC.v (.int .i64 0)]] t)
 (gh α a b
 (fun q=>gh α c d
 (fun r=>ug α
 (iI α e g h i j l m o q q r r
 (fun z=>cK (z == 0)
 (k2 q r)
 (mR α a b c d
 (fun s=>ch α p s
 (fun A=>cK A
 (k3)
 (mB α a b c d s
 (fun B C D F U=>wT α e g h i j l m o [[DC.v (.int .i64 s)]] t a B c C (w64 (p+1))
 (fun G H=>wT α e g h i j l m o G H D b F d (w64 (p+1))
 (fun I J=>k1 I J)
 (fun L M N O=>k4 L M N O))
 (fun P Q R T=>k4 P Q R T))))))))))))
def Nq:agx:=sld alr
def agJ:PT (List DV):=pA [pV false [(dMr [dL,dL,(dI .i64),(dI .i64),(dI .i64),(dI .i64),(dI .i64),(dI .i64),(dI .i64),(dI .i64),(dI .i64),(dI .i64),(dI .i64),dON,dNP,dB] 0)],pV true [(dI .i64),(dI .i64),(dI .i64),(dI .i64)],vI]
def acz (v:agx)(α:Type)(k:RT α):ae->ae->Int->Int->Int->Int->Int->Int->Int->Int->Int->Int->Int->Bool->I5 (Op α):=fun m a b c d e g o p q r h i s t w z A B=>v α a b c d e g h i s t w z A B (fun j l=>mi k true m a b c d e g o p q r h i j l) (fun j l=>ahx k false m a b c d e g o p q r h i ([]:ae) j l s) (afR k true m a b c d e g o p q r h i ([]:ae) true) (fun j l C D=>lr k false m a b c d e g o p q r h i j l C D)
def azo:ah:=(ah.put (.m [⟨JC,Rj ch⟩]) [1,1,1,1,0] (emb Iz))
theorem awV:ak Pg 96 89 ⟨agJ,acz Nq⟩:=iZ axP (ag Tryz.func96 (by kernel_rfl)) zv azo ((am _ _).trans (aA _)) (aM (by kernel_rfl) (aD Iz) ⟨arT,trivial⟩) fun _ _=>by kernel_rfl
def H8:SG:=[(13,[.sl,.sl,.int .i64,.sl,.int .i64,.int .i64]),(21,[.sl]),(25,[.sl]),(41,[.sl]),(43,iS 3),(45,iT),(53,[.sl,.sl,.int .i64,.sl,.int .i64,.int .i64])]
def aKB:TG:=[tT 0 [1,2],tT 1 [1,2,7],tT 2 [1,2,7,18],tT 3 [4,5],tT 4 [1,2,8],tT 5 [1,2,8,27],tT 6 [4,5],tT 7 [1,2,8,30],tT 8 [4,5],tT 9 [1,2,8,9],tT 10 [1,2,8,9,33],tT 12 [1,2,8,9,10],tT 13 [1,2,8,9,10,37],tT 15 [1,2,8,9,10,11],tT 16 [1,2,8,9,10,11,58],tT 17 [4,5],tT 14 [1,2,8,9,10],tT 11 [1,2,8,9],tT 18 [4,5]]
def aLc:TG:=[(10,⟨[1,2,8,9],true,[⟨true,2,0,30200,3⟩,⟨true,2,1,30201,2⟩,⟨true,2,3,30203,9⟩],[]⟩),(13,⟨[1,2,8,9,10],true,[⟨true,2,0,30200,3⟩,⟨true,2,1,30201,2⟩,⟨true,2,3,30203,9⟩],[]⟩)]
def ZF:aq:=aw Pg Tryz.f17 aKB aLc
def vZ:OT:=tdC (ah.sub [1,1,1,1,1,0,1,0] (emb ZF))
def v4:OT:=tdC (ah.sub [1,1,1,1,1,0,1,0,0,1,0,0,1,0] (emb ZF))
def zI:PT St:=pS [sI 1,sP 2,sI 8,sI 9,sI 10] [au 2 [(cD dL),(cD dL),xI,(cD dL),xI,xI]]
def IN {β:Type}(g:St->β):Int->Int->Int->Int->ae->ae->Int->ae->Int->Int->β:=zI.unc g
def anm:PT St:=pS [sI 1,sP 2,sI 8,sI 9,sI 10,sl 37 (aV false [(cD dB)])] [au 2 [(cD dL),(cD dL),xI,(cD dL),xI,xI]]
def Aq {β:Type}(g:St->β):Int->Int->Int->Int->Bool->ae->ae->Int->ae->Int->Int->β:=anm.unc g
def Lf:PT St:=pS [sI 1,sP 2,sI 8,sI 9] [au 2 [(cD dL),(cD dL),xI,(cD dL),xI,xI]]
def K9 {β:Type}(g:St->β):Int->Int->Int->ae->ae->Int->ae->Int->Int->β:=Lf.unc g
def aoh:PT St:=pS [sI 1,sP 2,sI 8,sI 9,sl 33 (aV false [(cD dB)])] [au 2 [(cD dL),(cD dL),xI,(cD dL),xI,xI]]
def AY {β:Type}(g:St->β):Int->Int->Int->Bool->ae->ae->Int->ae->Int->Int->β:=aoh.unc g
def vP:ah:=ah.sub [1,1,1,1,1,0,1,0,0,1,0,0,1,0,0] (emb ZF)
def qg (α:Type)(d b:Int)(e g:ae)(h:Int)(i:ae)(j l a:Int)(kn:Int->Op α)(k1:Int->Op α)(k2:Int->Bool->Op α):Op α:=
 cK (decide (a<=1))
 (dT e d [.int .i64,.int .i64,.int .i64]
 (fun q r c=>cF α (w64 (c+(w64 (a*b)))) 0 1000000
 (fun m=>cK m
 (Gp α e d (w64 (c+(w64 (a*b))))
 (fun o=>HK α o g h i j l
 (fun p=>cK p
 (k1 (w64 (c+(w64 (a*b)))))
 (kn (w64 (a+2))))))
 (kn (w64 (a+2))))))
 (k2 a (decide (a<=1)))
def iX (α:Type)(a b:Int)(c d:ae)(e:Int)(g:ae)(h i:Int)(k1:Int->Op α)(k2:Int->Bool->Op α):Nat->Int->Op α
 | 0,_=>none
 | n+1,j=>qg α a b c d e g h i j (iX α a b c d e g h i k1 k2 n) k1 k2
def MZ (α:Type)(a b:Int)(c d:ae)(e:Int)(g:ae)(h i:Int)(k1:Int->Op α)(k2:Int->Bool->Op α)(j:Int):Op α:=iX α a b c d e g h i k1 k2 aE j
abbrev xc:Type 1:=(α:Type)->Int->Int->ae->ae->Int->ae->Int->Int->(Int->Op α)->(Int->Bool->Op α)->Int->Op α
def tv:xc:=sld MZ
def Jk (v:xc)(α:Type)(K:KT α):Int->Int->Int->Int->ae->ae->Int->ae->Int->Int->Op α:=fun l b c m d e g h i j=>v α b c d e g h i j (fun a=>da (K .ret) a 0) (fun a o=>Aq (K (.exit 2)) l b c a o d e g h i j) m
theorem aqY (α:Type)(K:KT α)(Kn:SK α)(l a b c:Int)(d e:ae)(g:Int)(h:ae)(i j:Int):IN (fun σ=>az Pg E4 H8 vP (bI (fun σ=>br v4 σ Kn) K) σ) l a b c d e g h i j=qg α a b d e g h i j c (fun c=>IN Kn l a b c d e g h i j) (fun m=>da (K .ret) m 0) (fun m o=>Aq (K (.exit 2)) l a b m o d e g h i j):=by kernel_rfl
theorem arR (α:Type)(K:KT α):∀ (n:Nat) (m a b j:Int) (c d:ae) (e:Int) (g:ae) (h i:Int),iX α a b c d e g h i (fun l=>da (K .ret) l 0) (fun l o=>Aq (K (.exit 2)) m a b l o c d e g h i) n j=IN (aJ (az Pg E4 H8 vP) v4 K n) m a b j c d e g h i:=by
 intro n
 induction n with
 | zero=>intros;rfl
 | succ n ih=>intro m a b j c d e g h i;exact (congrArg (fun kn=>qg α a b c d e g h i j kn (fun l=>da (K .ret) l 0) (fun l o=>Aq (K (.exit 2)) m a b l o c d e g h i)) (funext fun j=>ih m a b j c d e g h i)).trans (aqY α K (aJ (az Pg E4 H8 vP) v4 K n) m a b j c d e g h i).symm
theorem ath:∀ (α:Type) (K:KT α),Jk tv α K=zI.unc fun σ=>aJ (az Pg E4 H8 vP) v4 K aE σ:=aZ (fun α K=>funext fun a=>funext fun b=>funext fun c=>funext fun d=>funext fun e=>funext fun g=>funext fun h=>funext fun i=>funext fun j=>funext fun l=>arR α K aE a b c d e g h i j l)
def vA:ah:=ah.sub [1,1,1,1,1,0,1,0,0] (ah.put (.m [⟨zI,Jk tv⟩]) [1,1,1,1,1,0,1,0,0,1,0,0,1,0] (emb ZF))
def vS (α:Type)(b c:Int)(d e:ae)(g:Int)(h:ae)(i j a:Int)(kn:Int->Op α)(k1:Int->Op α)(k2:Int->Bool->Op α):Op α:=
 cK (decide (a<=b))
 (tv α c a d e g h i j
 (fun l=>k1 l)
 (fun m o=>kn (w64 (a+1))) (-1))
 (k2 a (decide (a<=b)))
def qr (α:Type)(a b:Int)(c d:ae)(e:Int)(g:ae)(h i:Int)(k1:Int->Op α)(k2:Int->Bool->Op α):Nat->Int->Op α
 | 0,_=>none
 | n+1,j=>vS α a b c d e g h i j (qr α a b c d e g h i k1 k2 n) k1 k2
def LO (α:Type)(a b:Int)(c d:ae)(e:Int)(g:ae)(h i:Int)(k1:Int->Op α)(k2:Int->Bool->Op α)(j:Int):Op α:=qr α a b c d e g h i k1 k2 aE j
def A4:xc:=sld LO
def Wr (v:xc)(α:Type)(K:KT α):Int->Int->Int->ae->ae->Int->ae->Int->Int->Op α:=fun b c l d e g h i j=>v α b c d e g h i j (fun a=>da (K .ret) a 0) (fun a m=>AY (K (.exit 0)) b c a m d e g h i j) l
theorem apk (α:Type)(K:KT α)(Kn:SK α)(a b c:Int)(d e:ae)(g:Int)(h:ae)(i j:Int):K9 (fun σ=>az Pg E4 H8 vA (bI (fun σ=>br vZ σ Kn) K) σ) a b c d e g h i j=vS α a b d e g h i j c (fun c=>K9 Kn a b c d e g h i j) (fun l=>da (K .ret) l 0) (fun l m=>AY (K (.exit 0)) a b l m d e g h i j):=by kernel_rfl
theorem aqh (α:Type)(K:KT α):∀ (n:Nat) (a b j:Int) (c d:ae) (e:Int) (g:ae) (h i:Int),qr α a b c d e g h i (fun l=>da (K .ret) l 0) (fun l m=>AY (K (.exit 0)) a b l m c d e g h i) n j=K9 (aJ (az Pg E4 H8 vA) vZ K n) a b j c d e g h i:=by
 intro n
 induction n with
 | zero=>intros;rfl
 | succ n ih=>intro a b j c d e g h i;exact (congrArg (fun kn=>vS α a b c d e g h i j kn (fun l=>da (K .ret) l 0) (fun l m=>AY (K (.exit 0)) a b l m c d e g h i)) (funext fun j=>ih a b j c d e g h i)).trans (apk α K (aJ (az Pg E4 H8 vA) vZ K n) a b j c d e g h i).symm
theorem anz:∀ (α:Type) (K:KT α),Wr A4 α K=Lf.unc fun σ=>aJ (az Pg E4 H8 vA) vZ K aE σ:=aZ (fun α K=>funext fun a=>funext fun b=>funext fun c=>funext fun d=>funext fun e=>funext fun g=>funext fun h=>funext fun i=>funext fun j=>aqh α K aE a b c d e g h i j)
abbrev Kw:Type 1:=(α:Type)->ae->ae->Int->ae->Int->Int->Int->(Int->Int->Op α)->Op α
def alC (α:Type)(b a:ae)(c:Int)(g:ae)(h i d:Int)(k1:Int->Int->Op α):Op α:=
 Gc α b a c
 (fun m e=>cK (e != 0)
 (k1 0 e)
 (cK (((List.length a:Nat):Int) == ((List.length b:Nat):Int))
 (k1 0 6)
 (cF α d 0 50
 (fun j=>cK (!j)
 (k1 0 2)
 (A4 α d ((List.length a:Nat):Int) b a c g h i
 (fun l=>k1 l 0)
 (fun o p=>k1 0 17) 0)))))
def Gk:Kw:=sld alC
def yu:PT (List DV):=pA [pV true [dL,dL,(dI .i64),dL,(dI .i64),(dI .i64)],vI]
def ab4 (v:Kw)(α:Type)(k:RT α):ae->ae->Int->ae->Int->Int->Int->Op α:=fun a b c d e g h=>v α a b c d e g h (fun i j=>fw k i j)
def axF:ah:=(ah.put (.m [⟨Lf,Wr A4⟩]) [1,1,1,1,1,0,1,0] (ah.put (.m [⟨zI,Jk tv⟩]) [1,1,1,1,1,0,1,0,0,1,0,0,1,0] (emb ZF)))
theorem ayE:ak Pg 17 60 ⟨yu,ab4 Gk⟩:=iZ aBT (ag Tryz.func17 (by kernel_rfl)) H8 axF ((am _ _).trans ((am _ _).trans (aA _))) (aW (td:=vZ) (by kernel_rfl) (aW (td:=v4) (by kernel_rfl) (aD ZF) ⟨ath,trivial⟩) ⟨anz,trivial⟩) fun _ _=>by kernel_rfl
def Pq:SG:=[(11,[.sl]),(16,iS 9),(17,iS 9),(18,[.sl,.sl,.int .i64,.int .i64]),(19,iS 9),(24,iS 9),(39,iT),(46,iT),(51,[.bool]),(56,[.sl])]
def aIF:TG:=[tT 0 [1,4],tT 1 [1,4,5],tT 2 [1,4,5,6],tT 3 [1,4,5,6,11,12,13],tT 4 [1,4,5,6,11,12,13,14],tT 5 [1,4,5,6,7,8,11,12,13],tT 6 [1,4,5,6,7,8,9,11,12,13],tT 7 [1,4,5,6,7,9,11,12,13],tT 8 [1,4,5,6,7,9,11,12,13,31],(9,⟨[2,3,4],true,[],[3]⟩),tT 10 [1,4,5,6,9,11,12,13,51],tT 11 [1,4,5,6,9,11,12,13],tT 12 [1,4,5,6,11,12,13],tT 13 [1,4,5,6,11,12,13],tT 14 [4,5,6,61],tT 15 [4,5,6],(16,⟨[2,3,4],true,[],[3]⟩)]
def aLs:TG:=[(4,⟨[1,4,5,6,11,12,13],true,[⟨false,5,0,20005,1⟩,⟨false,11,0,20011,9⟩,⟨true,1,0,30100,9⟩,⟨true,1,1,30101,5⟩,⟨true,22,0,32200,9⟩,⟨true,22,1,32201,5⟩,⟨true,22,13,32213,1⟩],[]⟩)]
def abq:aq:=aw Pg Tryz.f71 aIF aLs
def wy:OT:=tdC (ah.sub [1,1,1,0,1,0] (emb abq))
def A7:PT St:=pS [sP 1,sP 4,sl 5 (aV false [(dG 20005)]),sI 6,sI 7,sP 8,sl 9 (aV false [(cE 22 0)]),sl 11 (aV false [(cD dL)]),sI 12,sI 13] [au 1 [(cD dL),(cD dL),xI,xI],au 4 (xs 3),dE 20005 1,au 8 (xs 9),au 22 [(cD dL),(cD dL),xI,xI,xI,xI,xI,xI,xI,xI,xI,xI,xI,Ls,(cD dNP),(cD dB)]]
def aIr {β:Type}(g:St->β):Int->Int->ae->Int->Int->ae->ae->Int->Int->Int->Int->Int->ae->Int->Int->Int->Int->Int->Int->Int->Int->Int->ae->ae->Int->Int->Int->Int->Int->Int->Int->Int->Int->Int->Int->Bool->β:=A7.unc g
def asP:PT St:=pS [sP 1,sP 4,sl 5 (aV false [(dG 20005)]),sI 6,sI 7,sl 9 (aV false [(cE 22 0)]),sl 11 (aV false [(cD dL)]),sI 12,sI 13] [au 1 [(cD dL),(cD dL),xI,xI],au 4 (xs 3),dE 20005 1,au 22 [(cD dL),(cD dL),xI,xI,xI,xI,xI,xI,xI,xI,xI,xI,xI,(dG 770026),(cD dNP),(cD dB)],dE 770026 1]
def apa {β:Type}(g:St->β):Int->Int->ae->Int->Int->ae->ae->Int->Int->Int->Int->Int->ae->ae->ae->Int->Int->Int->Int->Int->Int->Int->Int->Int->Int->Int->Bool->ae->β:=asP.unc g
def aqJ:PT St:=pS [sP 1,sP 4,sl 5 (aV false [(dG 20005)]),sI 6,sI 7,sl 9 (aV false [(cE 22 0)]),sl 11 (aV false [(cD dL)]),sI 12,sI 13] [au 1 [(cD dL),(cD dL),xI,xI],au 4 (xs 3),dE 20005 1,au 22 [(cD dL),(cD dL),xI,xI,xI,xI,xI,xI,xI,xI,xI,xI,xI,(cD dL),(cD (dP [(dI .i64),(dI .i64)] 0)),(cD dB)]]
def amx {β:Type}(g:St->β):Int->Int->ae->Int->Int->ae->ae->Int->Int->Int->Int->Int->ae->ae->ae->Int->Int->Int->Int->Int->Int->Int->Int->Int->Int->Int->ae->Int->Int->Bool->β:=aqJ.unc g
def arG:PT St:=pS [sP 1,sP 4,sl 5 (aV false [(dG 20005)]),sI 6,sI 7,sl 9 (aV false [(cE 22 0)]),sl 11 (aV false [(cD dL)]),sI 12,sI 13] [au 1 [(cD dL),(cD dL),xI,xI],au 4 (xs 3),dE 20005 1,au 22 [(cD dL),(cD dL),xI,xI,xI,xI,xI,xI,xI,xI,xI,xI,xI,(cD dL),(cD dNP),(cD dB)]]
def at5 {β:Type}(g:St->β):Int->Int->ae->Int->Int->ae->ae->Int->Int->Int->Int->Int->ae->ae->ae->Int->Int->Int->Int->Int->Int->Int->Int->Int->Int->Int->ae->Bool->β:=arG.unc g
def auj:PT St:=pS [sP 1,sP 4,sl 5 (aV false [(dG 20005)]),sI 6,sI 7,sl 9 (aV false [(cE 22 0)]),sl 11 (aV false [(cD dL)]),sI 12,sI 13] [au 1 [(cD dL),(cD dL),xI,xI],au 4 (xs 3),dE 20005 1,au 22 [(cD dL),(cD dL),xI,xI,xI,xI,xI,xI,xI,xI,xI,xI,xI,(dG 770026),(cD (dP [(dI .i64),(dI .i64)] 0)),(cD dB)],dE 770026 1]
def amk {β:Type}(g:St->β):Int->Int->ae->Int->Int->ae->ae->Int->Int->Int->Int->Int->ae->ae->ae->Int->Int->Int->Int->Int->Int->Int->Int->Int->Int->Int->Int->Int->Bool->ae->β:=auj.unc g
def AI:PT St:=pS [sP 1,sP 4,sl 5 (aV false [(dG 20005)]),sI 6,sI 7,sl 9 (aV false [(cE 22 0)]),sl 11 (aV false [(cD dL)]),sI 12,sI 13,sl 31 (aV false [(cD dB)])] [au 1 [(cD dL),(cD dL),xI,xI],au 4 (xs 3),dE 20005 1,au 22 [(cD dL),(cD dL),xI,xI,xI,xI,xI,xI,xI,xI,xI,xI,xI,(dG 770026),(cD dNP),(cD dB)],dE 770026 1]
def aIw {β:Type}(g:St->β):Int->Int->ae->Int->Int->Bool->ae->ae->Int->Int->Int->Int->Int->ae->ae->ae->Int->Int->Int->Int->Int->Int->Int->Int->Int->Int->Int->Bool->ae->β:=AI.unc g
def anW:PT St:=pS [sP 1,sP 4,sl 5 (aV false [(dG 20005)]),sI 6,sl 9 (aV false [(cE 22 0)]),sl 11 (aV false [(cD dL)]),sI 12,sI 13] [au 1 [(cD dL),(cD dL),xI,xI],au 4 (xs 3),dE 20005 1,au 22 [(cD dL),(cD dL),xI,xI,xI,xI,xI,xI,xI,xI,xI,xI,xI,(dG 770026),(cD dNP),(cD dB)],dE 770026 1]
def ana {β:Type}(g:St->β):Int->ae->Int->Int->ae->ae->Int->Int->Int->Int->Int->ae->ae->ae->Int->Int->Int->Int->Int->Int->Int->Int->Int->Int->Int->Bool->ae->β:=anW.unc g
def apM:PT St:=pS [sP 1,sP 4,sl 5 (aV false [(dG 20005)]),sI 6,sl 9 (aV false [(cE 22 0)]),sl 11 (aV false [(cD dL)]),sI 12,sI 13,sl 51 (aV false [(cD dB)])] [au 1 [(cD dL),(cD dL),xI,xI],au 4 (xs 3),dE 20005 1,au 22 [(cD dL),(cD dL),xI,xI,xI,xI,xI,xI,xI,xI,xI,xI,xI,(dG 770026),(cD dNP),(cD dB)],dE 770026 1]
def aqx {β:Type}(g:St->β):Int->ae->Int->Int->Bool->ae->ae->Int->Int->Int->Int->Int->ae->ae->ae->Int->Int->Int->Int->Int->Int->Int->Int->Int->Int->Int->Bool->ae->β:=apM.unc g
def KX:PT St:=pS [sP 1,sP 4,sl 5 (aV false [(dG 20005)]),sI 6,sl 11 (aV false [(cD dL)]),sI 12,sI 13] [au 1 [(cD dL),(cD dL),xI,xI],au 4 (xs 3),dE 20005 1]
def Ia {β:Type}(g:St->β):Int->ae->Int->Int->ae->ae->Int->Int->Int->Int->Int->ae->β:=KX.unc g
def ad8:PT St:=pS [sP 1,sP 4,sl 5 (aV false [(dG 20005)]),sI 6,sl 11 (aV false [(cD dL)]),sI 12,sI 13,sl 14 (aV false [(cD dB)])] [au 1 [(cD dL),(cD dL),xI,xI],au 4 (xs 3),dE 20005 1]
def tY {β:Type}(g:St->β):Int->ae->Int->Int->Bool->ae->ae->Int->Int->Int->Int->Int->ae->β:=ad8.unc g
def BB:aF:=aF.ofIO (⟨96,89,[⟨agJ,acz Nq⟩]⟩::Mv) bu io0
theorem axc:BB.Ok Pg:=aF.ofIO_ok aN ⟨⟨awV,trivial⟩,ON⟩
def aiC:ah:=ah.sub [1,1,1,0,1,0,0,1,1,0,0,1,1,1,1,0] (emb abq)
def I1 (v:jh)(α:Type)(K:KT α):Int->Int->ae->Int->Int->Bool->ae->ae->Int->Int->Int->Int->Int->ae->ae->ae->Int->Int->Int->Int->Int->Int->Int->Int->Int->Int->Int->Bool->ae->Op α:=fun I J b c d L e g h i j l m o p q r s t w z A B C D F G a H=>v α a (ana (K .normal) 1 b c d e g h i j l m o p q r s t w z A B C D F G a H) (aqx (K .normal) I b c d a e g h i j l m o p q r s t w z A B C D F G a H)
theorem arK:∀ (α:Type) (K:KT α),I1 be α K=AI.unc fun σ=>az Pg BB Pq aiC K σ:=aZ (fun α K=>by kernel_rfl)
def alp:ah:=ah.sub [1,1,1,0,1,0,0,1,1,0,0,1,1,0] (emb abq)
abbrev LA:Type 1:=(α:Type)->Int->Int->Int->Int->ae->Int->Int->Int->Int->Int->Int->Int->Bool->(Bool->ae->Op α)->(Int->Int->Op α)->(Op α)->(Int->Int->Bool->ae->Op α)->Op α
def OJ (α:Type)(a b c d:Int)(e:ae)(g h i j l m o:Int)(p:Bool)(k1:Bool->ae->Op α)(k2:Int->Int->Op α)(k3:Op α)(k4:Int->Int->Bool->ae->Op α):Op α:=
 Fy α
 (Nq α e g h i j l m o p c d a b 0
 (fun q r=>k1 r q)
 (fun s t=>k2 s t)
 (k3)
 (fun w z A B=>k4 z A B w))
def ue:LA:=sld OJ
def KO (v:LA)(α:Type)(K:KT α):Int->Int->ae->Int->Int->ae->ae->Int->Int->Int->Int->Int->ae->Int->Int->Int->Int->Int->Int->Int->Int->Int->ae->ae->I11 (Bool->Op α):=fun m o p q r s t w z A B C D T U V M N O P W X F a b c d e g G H I J h i L=>v α M N O P a b c d e g h i L (fun j l=>apa (K .normal) m o p q r s t w z A B C D F a b c d e g G H I J h i j l) (fun j l=>amx (K .normal) m o p q r s t w z A B C D F a b c d e g G H I J h i ([]:ae) j l L) (at5 (K .normal) m o p q r s t w z A B C D F a b c d e g G H I J h i ([]:ae) true) (fun j l Q R=>amk (K .normal) m o p q r s t w z A B C D F a b c d e g G H I J h i j l Q R)
theorem am6:∀ (α:Type) (K:KT α),KO ue α K=A7.unc fun σ=>az Pg BB Pq alp K σ:=aZ (fun α K=>by kernel_rfl)
def vr:ah:=ah.sub [1,1,1,0,1,0,0] (ah.put (.m [⟨A7,KO ue⟩]) [1,1,1,0,1,0,0,1,1,0,0,1,1] (ah.put (.m [⟨AI,I1 be⟩]) [1,1,1,0,1,0,0,1,1,0,0,1,1,1,1] (emb abq)))
def v5 (α:Type)(g:ae)(d:Int)(h:ae)(i j e a:Int)(b:ae)(kn:Int->Int->ae->Op α)(k1:Int->Int->Int->Op α)(k2:Int->Int->Bool->ae->Op α):Op α:=
 cK (decide (a < d))
 (dT g a [.int .i64,.int .i64,.int .i64,.int .i64,.int .i64,.int .i64,.int .i64,.int .i64,.int .i64]
 (fun l m o p q r s t w=>ue α p q r s h i j l m o t w false
 (fun z c=>be α z
 (gK (dH 1 24 b [[DC.sl c]]) (kn 1 (w64 (a+1)) (b++[[DC.sl c]])))
 (gK (dH 1 24 b [[DC.sl c]]) (kn e (w64 (a+1)) (b++[[DC.sl c]]))))
 (fun A B=>k1 a A B)
 (gK (dH 1 24 b [[DC.sl ([]:ae)]]) (kn 1 (w64 (a+1)) (b++[[DC.sl ([]:ae)]])))
 (fun C D F G=>k1 a C D)))
 (k2 e a (decide (a < d)) b)
def mP (α:Type)(a:ae)(b:Int)(c:ae)(d e:Int)(k1:Int->Int->Int->Op α)(k2:Int->Int->Bool->ae->Op α):Nat->Int->Int->ae->Op α
 | 0,_,_,_=>none
 | n+1,g,h,i=>v5 α a b c d e g h i (mP α a b c d e k1 k2 n) k1 k2
def NS (α:Type)(a:ae)(b:Int)(c:ae)(d e:Int)(k1:Int->Int->Int->Op α)(k2:Int->Int->Bool->ae->Op α)(g h:Int)(i:ae):Op α:=mP α a b c d e k1 k2 aE g h i
abbrev Mx:Type 1:=(α:Type)->ae->Int->ae->Int->Int->(Int->Int->Int->Op α)->(Int->Int->Bool->ae->Op α)->Int->Int->ae->Op α
def z5:Mx:=sld NS
def Sa (v:Mx)(α:Type)(K:KT α):Int->ae->Int->Int->ae->ae->Int->Int->Int->Int->Int->ae->Op α:=fun j d e l m g h i o p q r=>v α d e g h i (fun a b c=>ka (K .ret) 0 ([]:ae) a b c) (fun a b c s=>tY (K (.exit 0)) a d e b c m g h i o p q s) j l r
theorem anR (α:Type)(K:KT α)(Kn:SK α)(a:Int)(b:ae)(c d:Int)(j e:ae)(g h l m o:Int)(i:ae):Ia (fun σ=>az Pg BB Pq vr (bI (fun σ=>br wy σ Kn) K) σ) a b c d j e g h l m o i=v5 α b c e g h a d i (fun a d i=>Ia Kn a b c d j e g h l m o i) (fun p q r=>ka (K .ret) 0 ([]:ae) p q r) (fun p q r s=>tY (K (.exit 0)) p b c q r j e g h l m o s):=by kernel_rfl
theorem arM (α:Type)(K:KT α):∀ (n:Nat) (g:Int) (a:ae) (b h:Int) (o c:ae) (d e p q r:Int) (i:ae),mP α a b c d e (fun j l m=>ka (K .ret) 0 ([]:ae) j l m) (fun j l m s=>tY (K (.exit 0)) j a b l m o c d e p q r s) n g h i=Ia (aJ (az Pg BB Pq vr) wy K n) g a b h o c d e p q r i:=by
 intro n
 induction n with
 | zero=>intros;rfl
 | succ n ih=>intro g a b h o c d e p q r i;exact (congrArg (fun kn=>v5 α a b c d e g h i kn (fun j l m=>ka (K .ret) 0 ([]:ae) j l m) (fun j l m s=>tY (K (.exit 0)) j a b l m o c d e p q r s)) (funext fun g=>funext fun h=>funext fun i=>ih g a b h o c d e p q r i)).trans (anR α K (aJ (az Pg BB Pq vr) wy K n) g a b h o c d e p q r i).symm
theorem aqg:∀ (α:Type) (K:KT α),Sa z5 α K=KX.unc fun σ=>aJ (az Pg BB Pq vr) wy K aE σ:=aZ (fun α K=>funext fun a=>funext fun b=>funext fun c=>funext fun d=>funext fun e=>funext fun g=>funext fun h=>funext fun i=>funext fun j=>funext fun l=>funext fun m=>funext fun o=>arM α K aE a b c d e g h i j l m o)
def af5 (α:Type)(b c:ae)(d e:Int)(k1:Int->ae->Int->Int->Int->Op α):Op α:=
 z5 α b ((List.length b:Nat):Int) c d e
 (fun g h i=>k1 0 ([]:ae) g h i)
 (fun a l m j=>cK (a != 2)
 (k1 a ([]:ae) 0 0 0)
 (k1 a j 0 0 0)) 2 0 ([]:ae)
def UC:Jl:=sld af5
def alH (v:Jl)(α:Type)(k:RT α):ae->ae->Int->Int->Op α:=fun a b c d=>v α a b c d (fun e g h i j=>N9 k e g h i j)
def aw8:ah:=(ah.put (.m [⟨KX,Sa z5⟩]) [1,1,1,0,1,0] (ah.put (.m [⟨A7,KO ue⟩]) [1,1,1,0,1,0,0,1,1,0,0,1,1] (ah.put (.m [⟨AI,I1 be⟩]) [1,1,1,0,1,0,0,1,1,0,0,1,1,1,1] (emb abq))))
theorem awX:ak Pg 71 65 ⟨kZ,alH UC⟩:=iZ axc (ag Tryz.func71 (by kernel_rfl)) Pq aw8 ((am _ _).trans ((am _ _).trans ((am _ _).trans (aA _)))) (aW (td:=wy) (by kernel_rfl) (aM (by kernel_rfl) (aM (by kernel_rfl) (aD abq) ⟨arK,trivial⟩) ⟨am6,trivial⟩) ⟨aqg,trivial⟩) fun _ _=>by kernel_rfl
def aKo:SG:=[(12,[.sl,.sl,.int .i64,.int .i64]),(21,[.sl,.sl,.int .i64,.int .i64]),(28,iS 3)]
def aJa:TG:=[tT 0 [1,4],tT 1 [1,4,7],tT 2 [1,4,7,17],(3,⟨[2,3,4,5],true,[],[3]⟩),tT 4 [4,8,9,10],tT 5 [2,3,4,5]]
def aKI:aq:=aw Pg Tryz.f35 aJa aC
def ahL:PT (List RV):=pRs [wI,pR false [rD dL],pR true [rD (dI .i64),rD (dI .i64),rD (dI .i64)],wI]
def acx {β:Type}(g:List RV->β):Int->ae->I4 β:=ahL.unc g
noncomputable abbrev ay5:List bC:=⟨71,65,[⟨kZ,alH UC⟩]⟩::⟨17,60,[⟨yu,ab4 Gk⟩]⟩::Mv
theorem aF4:bH ay5 fun c=>bH c.l (ak Pg c.f c.nt):=⟨⟨awX,trivial⟩,⟨ayE,trivial⟩,ON⟩
def aJW:aF:=aF.ofIO ay5 bu io0
theorem aJu:aJW.Ok Pg:=aF.ofIO_ok aN aF4
abbrev ajT:Type 1:=(α:Type)->ae->ae->Int->Int->(Int->ae->I4 (Op α))->Op α
def acZ (α:Type)(a b:ae)(c d:Int)(k1:Int->ae->I4 (Op α)):Op α:=
 B4 α a b c d
 (fun m e=>cK (e != 0)
 (k1 0 ([]:ae) 0 0 0 e)
 (UC α a b c d
 (fun g h i j l=>k1 g h i j l 0)))
def MX:ajT:=sld acZ
def alF (v:ajT)(α:Type)(k:RT α):ae->ae->Int->Int->Op α:=fun a b c d=>v α a b c d (fun e g h i j l=>acx k e g h i j l)
theorem aww:ak Pg 35 29 ⟨kZ,alF MX⟩:=iP aJu aKI (ag Tryz.func35 (by kernel_rfl)) aKo fun _ _=>by kernel_rfl
def aIW:SG:=[(11,[.sl,.sl,.int .i64,.sl,.int .i64,.int .i64]),(21,[.sl]),(24,iS 2),(32,iS 3)]
def aJJ:TG:=[tT 0 [1,3],tT 1 [1,3,5,6],tT 2 [1,3,5,6,16],tT 3 [2,3,4],tT 4 [3,6,7,9],tT 5 [2,3,4]]
def aJR:aq:=aw Pg Tryz.f12 aJJ aC
noncomputable abbrev axr:List bC:=⟨35,29,[⟨kZ,alF MX⟩]⟩::ay5
theorem aHR:bH axr fun c=>bH c.l (ak Pg c.f c.nt):=⟨⟨aww,trivial⟩,aF4⟩
def aKJ:aF:=aF.ofIO axr bu io0
theorem aKu:aKJ.Ok Pg:=aF.ofIO_ok aN aHR
def alA (α:Type)(b c:ae)(d:Int)(e:ae)(g h:Int)(k1:I5 (Op α)):Op α:=
 Hg α b c d
 (fun i a=>cK (a != 0)
 (k1 0 0 0 0 a)
 (MX α e i g h
 (fun j q l m o p=>k1 j l m o p)))
def EU:KV:=sld alA
def ald (v:KV)(α:Type)(k:RT α):ae->ae->Int->ae->Int->Int->Op α:=fun a b c d e g=>v α a b c d e g (fun h i j l m=>Ox k h i j l m)
theorem aw1:ak Pg 12 34 ⟨eN,ald EU⟩:=iP aKu aJR (ag Tryz.func12 (by kernel_rfl)) aIW fun _ _=>by kernel_rfl
def aIU:TG:=[tT 0 [1],tT 1 [3,5],tT 2 [2]]
def aJ2:aq:=aw Pg Tryz.f30 aIU aC
noncomputable abbrev ay3:List bC:=⟨12,34,[⟨eN,ald EU⟩]⟩::axr
theorem aH0:bH ay3 fun c=>bH c.l (ak Pg c.f c.nt):=⟨⟨aw1,trivial⟩,aHR⟩
def aJx:aF:=aF.ofIO ay3 bu io0
theorem aJj:aJx.Ok Pg:=aF.ofIO_ok aN aH0
def alv (α:Type)(a b:ae)(c:Int)(d:ae)(e g:Int)(k1:Bool->Op α):Op α:=
 EU α a b c d e g
 (fun h j l m i=>cK (i == 0)
 (k1 (h == 2))
 (k1 false))
def FC:JQ:=sld alv
def ac6 (v:JQ)(α:Type)(k:RT α):ae->ae->Int->ae->Int->Int->Op α:=fun a b c d e g=>v α a b c d e g (fun h=>bi k h)
theorem azq:ak Pg 30 18 ⟨eN,ac6 FC⟩:=iP aJj aJ2 (ag Tryz.func30 (by kernel_rfl)) aD4 fun _ _=>by kernel_rfl
def E0:SG:=[(14,[.sl,.sl,.int .i64,.sl,.int .i64,.int .i64]),(22,[.sl]),(27,[.sl]),(35,[.sl]),(37,iS 3),(39,iT),(41,[.sl]),(63,[.sl]),(66,iS 3),(68,[.sl,.sl,.int .i64,.sl,.int .i64,.int .i64])]
def aK3:TG:=[tT 0 [1,2],tT 1 [1,2,7],tT 2 [1,2,7,19],tT 3 [4,5],tT 4 [1,2,8],tT 5 [1,2,8,24],tT 6 [4,5],tT 7 [1,2,8,30],tT 8 [4,5],tT 9 [1,2,8,9],tT 10 [1,2,8,9],tT 11 [2,8,9,45,46],tT 12 [2,8,9,45,46,47],tT 13 [2,8,9,10,45,46],tT 14 [2,8,9,45,46,55,56],tT 15 [2,8,9,45,46,55,56,57],tT 16 [2,8,9,12,45,46,55,56],tT 17 [2,8,9,12,45,46,55,56,61],tT 18 [2,8,9,12,45,46,55,56],tT 19 [2,8,9,12,45,46,55,56,69],tT 20 [4,5],tT 21 [2,8,9,45,46,55,56],tT 22 [2,8,9,45,46],tT 23 [4,5]]
def aJ3:TG:=[(12,⟨[2,8,9,45,46],true,[⟨true,2,0,30200,3⟩,⟨true,2,1,30201,2⟩,⟨true,2,3,30203,9⟩],[]⟩),(15,⟨[2,8,9,45,46,55,56],true,[⟨true,2,0,30200,3⟩,⟨true,2,1,30201,2⟩,⟨true,2,3,30203,9⟩],[]⟩)]
def Pd:aq:=aw Pg Tryz.f16 aK3 aJ3
def ui:OT:=tdC (ah.sub [1,1,1,1,1,1,0,1,0] (emb Pd))
def tK:OT:=tdC (ah.sub [1,1,1,1,1,1,0,1,0,0,1,1,0,0,1,1,0] (emb Pd))
def ux:PT St:=pS [sP 2,sI 8,sI 9,sI 45,sI 46,sl 55 (aV true [xI,xI]),sI 56,sl 57 (aV false [(cD dB)])] [au 2 [(dG 30200),(cD dL),xI,(cD dL),xI,xI],dE 30200 3]
def AA {β:Type}(g:St->β):Int->Int->Int->Int->Int->Int->Int->Bool->ae->Int->ae->Int->Int->ae->β:=ux.unc g
def anT:PT St:=pS [sP 2,sI 8,sI 9,sI 12,sI 45,sI 46,sl 55 (aV true [xI,xI]),sI 56] [au 2 [(dG 30200),(cD dL),xI,(cD dL),xI,xI],dE 30200 3]
def anJ {β:Type}(g:St->β):Int->Int->Int->Int->Int->Int->Int->Int->ae->Int->ae->Int->Int->ae->β:=anT.unc g
def As:PT St:=pS [sP 2,sI 8,sI 9,sI 45,sI 46,sl 55 (aV true [xI,xI]),sI 56] [au 2 [(dG 30200),(cD dL),xI,(cD dL),xI,xI],dE 30200 3]
def J7 {β:Type}(g:St->β):Int->Int->Int->Int->Int->Int->Int->ae->Int->ae->Int->Int->ae->β:=As.unc g
def Ks:PT St:=pS [sP 2,sI 8,sI 9,sI 45,sI 46] [au 2 [(dG 30200),(cD dL),xI,(cD dL),xI,xI],dE 30200 3]
def H6 {β:Type}(g:St->β):Int->Int->Int->Int->ae->Int->ae->Int->Int->ae->β:=Ks.unc g
def atH:PT St:=pS [sP 2,sI 8,sI 9,sI 45,sI 46,sl 47 (aV false [(cD dB)])] [au 2 [(dG 30200),(cD dL),xI,(cD dL),xI,xI],dE 30200 3]
def zP {β:Type}(g:St->β):Int->Int->Int->Int->Bool->ae->Int->ae->Int->Int->ae->β:=atH.unc g
noncomputable abbrev aw5:List bC:=⟨44,aBb,[⟨PO,Py Su⟩]⟩::⟨30,18,[⟨eN,ac6 FC⟩]⟩::ay3
theorem aEC:bH aw5 fun c=>bH c.l (ak Pg c.f c.nt):=⟨⟨azI,trivial⟩,⟨azq,trivial⟩,aH0⟩
def E2:aF:=aF.ofIO aw5 bu io0
theorem aI9:E2.Ok Pg:=aF.ofIO_ok aN aEC
def aew:ah:=ah.sub [1,1,1,1,1,1,0,1,0,0,1,1,0,0,1,1,0,0,1,1,0,0,0] (emb Pd)
def Dq (α:Type)(b c a:Int)(k1:Int->Op α):Op α:=
 cK (a == 1)
 (k1 c)
 (cK (a == 0)
 (k1 b)
 (none))
def ne:qi:=sld Dq
def Al (v:qi)(α:Type)(K:KT α):Int->Int->Int->Int->Int->Int->Int->Bool->ae->Int->ae->Int->Int->ae->Op α:=fun d e g h a b c r i j l m o p=>v α a b c (fun q=>anJ (K .normal) d e q g h a b c i j l m o p)
theorem asJ:∀ (α:Type) (K:KT α),Al ne α K=ux.unc fun σ=>az Pg E2 E0 aew K σ:=aZ (fun α K=>by kernel_rfl)
def vh:ah:=ah.sub [1,1,1,1,1,1,0,1,0,0,1,1,0,0,1,1,0,0] (ah.put (.m [⟨ux,Al ne⟩]) [1,1,1,1,1,1,0,1,0,0,1,1,0,0,1,1,0,0,1,1,0,0] (emb Pd))
def qz (α:Type)(b e g:Int)(h:ae)(i:Int)(j:ae)(l m c:Int)(a:ae)(kn:Int->ae->Op α)(k1:Int->Op α)(k2:Int->Bool->ae->Op α):Op α:=
 cK (decide (c < 2))
 (ne α e g c
 (fun d=>lD α d 0 1000000
 (fun o=>cK (!o)
 (kn (w64 (c+1)) a)
 (ixK a b 3
 (stK a (Int.toNat b) 2 1
 (FC α (List.set a (Int.toNat b) (splice (cu a (Int.toNat b)) 2 [DC.v (.int .i64 d)])) h i j l m
 (fun p=>cK p
 (k1 d)
 (kn (w64 (c+1)) (List.set a (Int.toNat b) (splice (cu a (Int.toNat b)) 2 [DC.v (.int .i64 d)]))))))))))
 (k2 c (decide (c < 2)) a)
def gV (α:Type)(a b c:Int)(d:ae)(e:Int)(g:ae)(h i:Int)(k1:Int->Op α)(k2:Int->Bool->ae->Op α):Nat->Int->ae->Op α
 | 0,_,_=>none
 | n+1,j,l=>qz α a b c d e g h i j l (gV α a b c d e g h i k1 k2 n) k1 k2
def Ot (α:Type)(a b c:Int)(d:ae)(e:Int)(g:ae)(h i:Int)(k1:Int->Op α)(k2:Int->Bool->ae->Op α)(j:Int)(l:ae):Op α:=gV α a b c d e g h i k1 k2 aE j l
abbrev wz:Type 1:=(α:Type)->Int->Int->Int->ae->Int->ae->Int->Int->(Int->Op α)->(Int->Bool->ae->Op α)->Int->ae->Op α
def wE:wz:=sld Ot
def JN (v:wz)(α:Type)(K:KT α):Int->Int->Int->Int->Int->Int->Int->ae->Int->ae->Int->Int->ae->Op α:=fun b l m o c d p e g h i j q=>v α b c d e g h i j (fun a=>da (K .ret) a 0) (fun a r s=>AA (K (.exit 3)) b l m o c d a r e g h i j s) p q
theorem aoF (α:Type)(K:KT α)(Kn:SK α)(a m o p b c d:Int)(e:ae)(g:Int)(h:ae)(i j:Int)(l:ae):J7 (fun σ=>az Pg E2 E0 vh (bI (fun σ=>br tK σ Kn) K) σ) a m o p b c d e g h i j l=qz α a b c e g h i j d l (fun d l=>J7 Kn a m o p b c d e g h i j l) (fun q=>da (K .ret) q 0) (fun q r s=>AA (K (.exit 3)) a m o p b c q r e g h i j s):=by kernel_rfl
theorem amg (α:Type)(K:KT α):∀ (n:Nat) (a o p q b c j:Int) (d:ae) (e:Int) (g:ae) (h i:Int) (l:ae),gV α a b c d e g h i (fun m=>da (K .ret) m 0) (fun m r s=>AA (K (.exit 3)) a o p q b c m r d e g h i s) n j l=J7 (aJ (az Pg E2 E0 vh) tK K n) a o p q b c j d e g h i l:=by
 intro n
 induction n with
 | zero=>intros;rfl
 | succ n ih=>intro a o p q b c j d e g h i l;exact (congrArg (fun kn=>qz α a b c d e g h i j l kn (fun m=>da (K .ret) m 0) (fun m r s=>AA (K (.exit 3)) a o p q b c m r d e g h i s)) (funext fun j=>funext fun l=>ih a o p q b c j d e g h i l)).trans (aoF α K (aJ (az Pg E2 E0 vh) tK K n) a o p q b c j d e g h i l).symm
theorem aoe:∀ (α:Type) (K:KT α),JN wE α K=As.unc fun σ=>aJ (az Pg E2 E0 vh) tK K aE σ:=aZ (fun α K=>funext fun a=>funext fun b=>funext fun c=>funext fun d=>funext fun e=>funext fun g=>funext fun h=>funext fun i=>funext fun j=>funext fun l=>funext fun m=>funext fun o=>funext fun p=>amg α K aE a b c d e g h i j l m o p)
def ta:ah:=ah.sub [1,1,1,1,1,1,0,1,0,0] (ah.put (.m [⟨As,JN wE⟩]) [1,1,1,1,1,1,0,1,0,0,1,1,0,0,1,1,0] (ah.put (.m [⟨ux,Al ne⟩]) [1,1,1,1,1,1,0,1,0,0,1,1,0,0,1,1,0,0,1,1,0,0] (emb Pd)))
def tD (α:Type)(e b c:Int)(g:ae)(h:Int)(i:ae)(j l a:Int)(d:ae)(kn:Int->ae->Op α)(k1:Int->Op α)(k2:Int->Bool->ae->Op α):Op α:=
 cK (decide (a < c))
 (wE α e (w64 (b - a)) (w64 (b+a)) g h i j l
 (fun m=>k1 m)
 (fun p q o=>kn (w64 (a+1)) o) 0 d)
 (k2 a (decide (a < c)) d)
def kp (α:Type)(a b c:Int)(d:ae)(e:Int)(g:ae)(h i:Int)(k1:Int->Op α)(k2:Int->Bool->ae->Op α):Nat->Int->ae->Op α
 | 0,_,_=>none
 | n+1,j,l=>tD α a b c d e g h i j l (kp α a b c d e g h i k1 k2 n) k1 k2
def On (α:Type)(a b c:Int)(d:ae)(e:Int)(g:ae)(h i:Int)(k1:Int->Op α)(k2:Int->Bool->ae->Op α)(j:Int)(l:ae):Op α:=kp α a b c d e g h i k1 k2 aE j l
def Ar:wz:=sld On
def P6 (v:wz)(α:Type)(K:KT α):Int->Int->Int->Int->ae->Int->ae->Int->Int->ae->Op α:=fun b c d l e g h i j m=>v α b c d e g h i j (fun a=>da (K .ret) a 0) (fun a o p=>zP (K (.exit 1)) b c d a o e g h i j p) l m
theorem aqa (α:Type)(K:KT α)(Kn:SK α)(a b c d:Int)(e:ae)(g:Int)(h:ae)(i j:Int)(l:ae):H6 (fun σ=>az Pg E2 E0 ta (bI (fun σ=>br ui σ Kn) K) σ) a b c d e g h i j l=tD α a b c e g h i j d l (fun d l=>H6 Kn a b c d e g h i j l) (fun m=>da (K .ret) m 0) (fun m o p=>zP (K (.exit 1)) a b c m o e g h i j p):=by kernel_rfl
theorem asB (α:Type)(K:KT α):∀ (n:Nat) (a b c j:Int) (d:ae) (e:Int) (g:ae) (h i:Int) (l:ae),kp α a b c d e g h i (fun m=>da (K .ret) m 0) (fun m o p=>zP (K (.exit 1)) a b c m o d e g h i p) n j l=H6 (aJ (az Pg E2 E0 ta) ui K n) a b c j d e g h i l:=by
 intro n
 induction n with
 | zero=>intros;rfl
 | succ n ih=>intro a b c j d e g h i l;exact (congrArg (fun kn=>tD α a b c d e g h i j l kn (fun m=>da (K .ret) m 0) (fun m o p=>zP (K (.exit 1)) a b c m o d e g h i p)) (funext fun j=>funext fun l=>ih a b c j d e g h i l)).trans (aqa α K (aJ (az Pg E2 E0 ta) ui K n) a b c j d e g h i l).symm
theorem amM:∀ (α:Type) (K:KT α),P6 Ar α K=Ks.unc fun σ=>aJ (az Pg E2 E0 ta) ui K aE σ:=aZ (fun α K=>funext fun a=>funext fun b=>funext fun c=>funext fun d=>funext fun e=>funext fun g=>funext fun h=>funext fun i=>funext fun j=>funext fun l=>asB α K aE a b c d e g h i j l)
def ags (α:Type)(b a:ae)(c:Int)(g:ae)(h i d:Int)(k1:Int->Int->Op α):Op α:=
 Hg α b a c
 (fun p e=>cK (e != 0)
 (k1 0 e)
 (cK (((List.length a:Nat):Int) == ((List.length b:Nat):Int))
 (k1 0 6)
 (lD α d 0 50
 (fun j=>cK (!j)
 (k1 0 2)
 (dT b ((List.length a:Nat):Int) [.int .i64,.int .i64,.int .i64]
 (fun q r l=>Su α b
 (fun m=>Ar α ((List.length a:Nat):Int) l (w64 (d+1)) a c g h i
 (fun o=>k1 o 0)
 (fun s t w=>k1 0 17) 0 m)))))))
def Fk:Kw:=sld ags
def al9 (v:Kw)(α:Type)(k:RT α):ae->ae->Int->ae->Int->Int->Int->Op α:=fun a b c d e g h=>v α a b c d e g h (fun i j=>fw k i j)
def ayb:ah:=(ah.put (.m [⟨Ks,P6 Ar⟩]) [1,1,1,1,1,1,0,1,0] (ah.put (.m [⟨As,JN wE⟩]) [1,1,1,1,1,1,0,1,0,0,1,1,0,0,1,1,0] (ah.put (.m [⟨ux,Al ne⟩]) [1,1,1,1,1,1,0,1,0,0,1,1,0,0,1,1,0,0,1,1,0,0] (emb Pd))))
theorem azV:ak Pg 16 73 ⟨yu,al9 Fk⟩:=iZ aI9 (ag Tryz.func16 (by kernel_rfl)) E0 ayb ((am _ _).trans ((am _ _).trans ((am _ _).trans (aA _)))) (aW (td:=ui) (by kernel_rfl) (aW (td:=tK) (by kernel_rfl) (aM (by kernel_rfl) (aD Pd) ⟨asJ,trivial⟩) ⟨aoe,trivial⟩) ⟨amM,trivial⟩) fun _ _=>by kernel_rfl
end
end Go.AM.K
