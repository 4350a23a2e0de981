/- Printed by KGen. -/
import Derived.Test.YtmcplmhohldpjaaGreatRc
namespace Go.AM.K
open Go.Proofs
set_option maxRecDepth 100000
set_option linter.unusedVariables false
noncomputable section
def arI:SG:=[(10,[.sl]),(19,[.sl,.sl,.int .i64,.int .i64]),(21,[.sl]),(22,iS 9),(23,iS 9),(25,[.sl]),(26,iS 9),(27,iS 9)]
def ar9:TG:=[tT 0 [1],tT 1 [1,4,5],tT 2 [1,4,5,15],tT 3 [2,3],tT 4 [7],tT 5 [2,3]]
def as3:au:=aD Pg Tryz.f29 ar9 aX
abbrev YZ:Type 1:=(α:Type)->ae->ae->Int->Int->(Int->Int->Op α)->Op α
def KE (α:Type)(a c:ae)(d e:Int)(k1:Int->Int->Op α):Op α:=
 Dx α a
 (fun g b=>cK (b != 0)
 (k1 g b)
 (gq a 0 [.int .i64,.int .i64,.int .i64,.int .i64,.int .i64,.int .i64,.int .i64,.int .i64,.int .i64]
 (fun q h i r s t w z A=>gq a 0 [.int .i64,.int .i64,.int .i64,.int .i64,.int .i64,.int .i64,.int .i64,.int .i64,.int .i64]
 (fun B C D j l m o F G=>Ec α
 (CY α
 (Ct α i j l h m o c d e
 (fun H p=>k1 0 p)))))))
def AE:YZ:=sld KE
def vp:PT (List DV):=pA [pV true [dL,dL,(dI .i64),(dI .i64)]]
def YW (v:YZ)(α:Type)(k:RT α):ae->ae->Int->Int->Op α:=fun a b c d=>v α a b c d (fun e g=>Bj k e g)
theorem al7:al Pg 29 34 ⟨vp,YW AE⟩:=iP ek5 as3 (ah Tryz.func29 (by kernel_rfl)) arI fun _ _=>by kernel_rfl
def at1:SG:=[(8,[.cpx .f64,.int .i64]),(16,iS 3),(19,iT),(21,iT),(25,iT),(27,iT)]
def asH:TG:=[tT 0 [1,2],tT 1 [2,4,5],tT 2 [2,4,5,13],tT 3 [2,3],tT 4 [2,6],tT 5 [2,3]]
def arz:au:=aD Pg Tryz.f36 asH aX
noncomputable abbrev Lk6:List bz:=⟨86,25,[⟨nw,UM iw⟩]⟩::⟨169,58,[⟨j3,Nt Et⟩]⟩::⟨173,76,[⟨j3,L1 F5⟩]⟩::⟨138,94,[⟨pU,NR rA⟩]⟩::⟨81,21,[⟨qm,XY wY⟩]⟩::⟨134,20,[⟨qm,Oc vS⟩]⟩::⟨31,15,[⟨wu,Yt O1⟩]⟩::⟨29,34,[⟨vp,YW AE⟩]⟩::Lk5
theorem ak6:bF Lk6 fun c=>bF c.l (al Pg c.f c.nt):=⟨⟨alg,TT⟩,⟨ahc,TT⟩,⟨aeZ,TT⟩,⟨abW,TT⟩,⟨ajJ,TT⟩,⟨aeS,TT⟩,⟨aj4,TT⟩,⟨al7,TT⟩,ak5⟩
def Ek6:aE:=aE.ofIO Lk6 bD io0
theorem ek6:Ek6.Ok Pg:=aE.ofIO_ok aO ak6
def YI (α:Type)(e g:Nat)(a:Int)(k1:Int->Int->Int->Op α):Op α:=
 iw α e g a
 (fun h i b=>cK (b != 0)
 (k1 0 0 b)
 (Rw α h i a
 (fun c d=>jq α (w64 (c*c)) 1048576
 (fun j=>dS α (w64 (d*d)) 1048576
 (fun l=>k1 j l 0)))))
def Bw:Fc:=sld YI
def aaJ (v:Fc)(α:Type)(k:RT α):Nat->Nat->Int->Op α:=fun a b c=>v α a b c (fun d e g=>qa k d e g)
theorem ajM:al Pg 36 31 ⟨nw,aaJ Bw⟩:=iP ek6 arz (ah Tryz.func36 (by kernel_rfl)) at1 fun _ _=>by kernel_rfl
def aim:SG:=[(21,iT),(27,iT),(50,iS 3)]
def arg:TG:=[tT 0 [0,1,4],tT 1 [0,1,4,6],tT 2 [0,1,4,6,7],tT 3 [0,1,4,6,7,8],tT 4 [0,1,4,6,8,10],tT 5 [0,1,4,12],tT 6 [4,12,48],tT 7 [4,12],tT 8 [4,5]]
def Ty:au:=aD Pg Tryz.f197 arg aX
def Ab:PT St:=pS [sI 0,sI 1,sP 4,sP 12] [aB 4 [(cD (dX .f64)),xI],aB 12 (xs 3)]
def aoQ {β:Type}(g:St->β):Int->Int->Nat->Nat->I4 β:=Ab.unc g
def aas:PT St:=pS [sP 4,sP 12] [aB 4 [(cD (dX .f64)),xI],aB 12 (xs 3)]
def Uc {β:Type}(g:St->β):Nat->Nat->I4 β:=aas.unc g
def TC:PT St:=pS [sP 4,sP 12,sY 48 dB] [aB 4 [(cD (dX .f64)),xI],aB 12 (xs 3)]
def ZM {β:Type}(g:St->β):Bool->Nat->Nat->I4 β:=TC.unc g
def Zh:aE:=aE.ofIO (⟨214,36,[⟨bC,M7 zR⟩]⟩::Lk6) bD io0
theorem adS:Zh.Ok Pg:=aE.ofIO_ok aO ⟨⟨agW,TT⟩,ak6⟩
def Sb:ag:=ag.sub [1,1,1,1,1,1,0] (emb Ty)
def Ds (α:Type)(a b:Int)(k1:Op α)(k2:Bool->Op α):Op α:=
 cK (a == b)
 (cK ((Int.tmod a 1048576) == 0)
 (k1)
 (k2 ((Int.tmod a 1048576) == 0)))
 (k2 false)
def sf:uQ:=sld Ds
def G7 (v:uQ)(α:Type)(K:KT α):Int->Int->Nat->Nat->I4 (Op α):=fun g h a b c d e i=>v α g h (Uc (K .normal) a b c d e 0) (fun j=>ZM (K .normal) j a b c d e i)
theorem VF:∀ (α:Type) (K:KT α),G7 sf α K=Ab.unc fun σ=>aF Pg Zh aim Sb K σ:=bM (fun α K=>by kernel_rfl)
def Rl (α:Type)(b a:Int)(k1:Nat->Nat->Int->Int->Op α):Op α:=
 jq α (w64 (b+a)) 2
 (fun c=>zR α c
 (fun g h=>mF α g 64
 (fun d t=>mF α h 64
 (fun e w=>dS α (w64 (11*(w64 (a - c)))) 7
 (fun i=>sf α b a
 (f9 α d e 0
 (fun j l m o=>k1 j l m o))
 (fun z=>f9 α d e (w64 (2+i))
 (fun p q r s=>k1 p q r s)))))))
def B0:fV:=sld Rl
def P9 (v:fV)(α:Type)(k:RT α):Int->Int->Op α:=fun a b=>v α a b (fun c d e g=>bt k c d e g)
def adQ:ag:=(ag.put (.m [⟨Ab,G7 sf⟩]) [1,1,1,1,1,1] (emb Ty))
theorem afI:al Pg 197 54 ⟨ed,P9 B0⟩:=iZ adS (ah Tryz.func197 (by kernel_rfl)) aim adQ ((aw _ _).trans (aG _)) (aY (by kernel_rfl) (aM Ty) ⟨VF,TT⟩) fun _ _=>by kernel_rfl
def Lh:SG:=[(7,iS 3),(8,iS 3)]
def anv:TG:=[tT 0 [1,2,3,4],tT 1 [4,5]]
def Nk:au:=aD Pg Tryz.f200 anv aX
def Pk (α:Type)(a b c d e g:Int)(k1:Int->Int->Int->Op α):Op α:=
 FJ α d e g a b c
 (fun h i j=>k1 h i j)
def EY:fS:=sld Pk
def OE:PT (List DV):=pA [pV true [(dI .i64),(dI .i64),(dI .i64)],pV false [(dP [(dFn 167 [])] 0)],pV false [(dP [(dI .i64),(dI .i64),(dI .i64)] 0)]]
def LT (v:fS)(α:Type)(k:RT α):I6 (Op α):=fun a b c d e g=>v α a b c d e g (fun h i j=>eo k h i j 0)
theorem ae7:al Pg 200 12 ⟨OE,LT EY⟩:=iP ek6 Nk (ah Tryz.func200 (by kernel_rfl)) Lh fun _ _=>by kernel_rfl
def OJ (α:Type)(a b c d e g:Int)(k1:Int->Int->Int->Op α):Op α:=
 Et α d e g a b c
 (fun h i j=>k1 h i j)
def FV:fS:=sld OJ
def LD:PT (List DV):=pA [pV true [(dI .i64),(dI .i64),(dI .i64)],pV false [(dP [(dFn 169 [])] 0)],pV false [(dP [(dI .i64),(dI .i64),(dI .i64)] 0)]]
def LL (v:fS)(α:Type)(k:RT α):I6 (Op α):=fun a b c d e g=>v α a b c d e g (fun h i j=>eo k h i j 0)
theorem adD:al Pg 200 12 ⟨LD,LL FV⟩:=iP ek6 Nk (ah Tryz.func200 (by kernel_rfl)) Lh fun _ _=>by kernel_rfl
def Lm (α:Type)(a b c d e g:Int)(k1:Int->Int->Int->Op α):Op α:=
 EN α d e g a b c
 (fun h i j=>k1 h i j)
def ES:fS:=sld Lm
def ME:PT (List DV):=pA [pV true [(dI .i64),(dI .i64),(dI .i64)],pV false [(dP [(dFn 177 [])] 0)],pV false [(dP [(dI .i64),(dI .i64),(dI .i64)] 0)]]
def L4 (v:fS)(α:Type)(k:RT α):I6 (Op α):=fun a b c d e g=>v α a b c d e g (fun h i j=>eo k h i j 0)
theorem abS:al Pg 200 12 ⟨ME,L4 ES⟩:=iP ek6 Nk (ah Tryz.func200 (by kernel_rfl)) Lh fun _ _=>by kernel_rfl
def Lp (α:Type)(a b c d e g:Int)(k1:I4 (Op α)):Op α:=
 F5 α d e g a b c
 (fun h i j l=>k1 h i j l)
def GI:yP:=sld Lp
def LU:PT (List DV):=pA [pV true [(dI .i64),(dI .i64),(dI .i64)],pV false [(dP [(dFn 173 [])] 0)],pV false [(dP [(dI .i64),(dI .i64),(dI .i64)] 0)]]
def OD (v:yP)(α:Type)(k:RT α):I6 (Op α):=fun a b c d e g=>v α a b c d e g (fun h i j l=>eo k h i j l)
theorem agT:al Pg 200 12 ⟨LU,OD GI⟩:=iP ek6 Nk (ah Tryz.func200 (by kernel_rfl)) Lh fun _ _=>by kernel_rfl
def as2:SG:=[(8,[.cpx .f64,.int .i64]),(20,iT),(25,iT)]
def asI:TG:=[tT 0 [1,2],tT 1 [2,4,5],tT 2 [2,4,5,13],tT 3 [2,3],tT 4 [2,4,6],tT 5 [2,3]]
def ato:au:=aD Pg Tryz.f79 asI aX
def Xd:PT (List RV):=pRs [pR true [rD (dI .i64),rD (dI .i64),rD (dI .i64),rD (dI .i64)],wI]
def Zi {β:Type}(g:List RV->β):I5 β:=Xd.unc g
abbrev VV:Type 1:=(α:Type)->Nat->Nat->Int->(I5 (Op α))->Op α
def UF (α:Type)(c d:Nat)(a:Int)(k1:I5 (Op α)):Op α:=
 iw α c d a
 (fun e g b=>cK (b != 0)
 (k1 0 0 0 0 b)
 (zk α e a
 (fun h i=>zk α g a
 (fun j l=>k1 h i j l 0))))
def Hs:VV:=sld UF
def Xn (v:VV)(α:Type)(k:RT α):Nat->Nat->Int->Op α:=fun a b c=>v α a b c (fun d e g h i=>Zi k d e g h i)
theorem ajP:al Pg 79 28 ⟨nw,Xn Hs⟩:=iP ek6 ato (ah Tryz.func79 (by kernel_rfl)) as2 fun _ _=>by kernel_rfl
def apK:SG:=[(5,iS 2),(12,iT),(14,iT)]
def aqz:TG:=[tT 0 [1,2],tT 1 [1,2,4],tT 2 [1,2,4,8],tT 3 [2,3],tT 4 [2,3]]
def aqs:au:=aD Pg Tryz.f164 aqz aX
noncomputable abbrev Lk7:List bz:=⟨197,54,[⟨ed,P9 B0⟩]⟩::⟨200,12,[⟨OE,LT EY⟩]⟩::⟨79,28,[⟨nw,Xn Hs⟩]⟩::⟨36,31,[⟨nw,aaJ Bw⟩]⟩::Lk6
theorem ak7:bF Lk7 fun c=>bF c.l (al Pg c.f c.nt):=⟨⟨afI,TT⟩,⟨ae7,TT⟩,⟨ajP,TT⟩,⟨ajM,TT⟩,ak6⟩
def Ek7:aE:=aE.ofIO Lk7 bD io0
theorem ek7:Ek7.Ok Pg:=aE.ofIO_ok aO ak7
def M8 (α:Type)(a b:Int)(k1:Nat->Nat->Int->Int->Op α):Op α:=
 v4 α a b (-1099511627776)
 (fun c=>cK (c != 0)
 (k1 0 0 0 c)
 (B0 α a b
 (fun d e g h=>k1 d e g h)))
def vH:fV:=sld M8
def N7 (v:fV)(α:Type)(k:RT α):Int->Int->Op α:=fun a b=>v α a b (fun c d e g=>bt k c d e g)
theorem adX:al Pg 164 18 ⟨bB,N7 vH⟩:=iP ek7 aqs (ah Tryz.func164 (by kernel_rfl)) apK fun _ _=>by kernel_rfl
def C6:SG:=[(9,[.cpx .f64,.int .i64]),(19,iS 3),(27,iS 3)]
def apM:TG:=[tT 0 [1,2,4],tT 1 [1,4,6,7],tT 2 [1,4,6,7,14],tT 3 [4,5],tT 4 [4,6,7],tT 5 [4,6,7,24],tT 6 [4,5],tT 7 [4,5]]
def DS:au:=aD Pg Tryz.f137 apM aX
abbrev yk:Type 1:=(α:Type)->Nat->Nat->Int->Int->(Nat->Nat->Int->Int->Op α)->Op α
def Lj (α:Type)(d e:Nat)(a g:Int)(k1:Nat->Nat->Int->Int->Op α):Op α:=
 iw α d e a
 (fun h i b=>cK (b != 0)
 (k1 0 0 0 b)
 (FW α h i g
 (fun j l c=>cK (c != 0)
 (k1 0 0 0 c)
 (f9 α j l a
 (fun m o p q=>k1 m o p q)))))
def Gu:yk:=sld Lj
def Ov:PT (List DV):=pA [pV true [(dX .f64),(dI .i64)],pV false [(dFn 180 [(dP [(dI .i64)] 0)])]]
def M9 (v:yk)(α:Type)(k:RT α):Nat->Nat->Int->Int->Op α:=fun a b c d=>v α a b c d (fun e g h i=>bt k e g h i)
theorem agX:al Pg 137 31 ⟨Ov,M9 Gu⟩:=iP ek7 DS (ah Tryz.func137 (by kernel_rfl)) C6 fun _ _=>by kernel_rfl
abbrev jY:Type 1:=(α:Type)->Nat->Nat->Int->Int->Int->Int->(Nat->Nat->Int->Int->Op α)->Op α
def NO (α:Type)(c d:Nat)(a e g h:Int)(k1:Nat->Nat->Int->Int->Op α):Op α:=
 iw α c d a
 (fun i j b=>cK (b != 0)
 (k1 0 0 0 b)
 (EY α i j a e g h
 (fun l m o=>f9 α l m o
 (fun p q r s=>k1 p q r s))))
def Ff:jY:=sld NO
def L8:PT (List DV):=pA [pV true [(dX .f64),(dI .i64)],pV false [(dFn 200 [(dP [(dFn 167 [])] 0),(dP [(dI .i64),(dI .i64),(dI .i64)] 0)])]]
def N8 (v:jY)(α:Type)(k:RT α):Nat->Nat->I4 (Op α):=fun a b c d e g=>v α a b c d e g (fun h i j l=>bt k h i j l)
theorem ab5:al Pg 137 31 ⟨L8,N8 Ff⟩:=iP ek7 DS (ah Tryz.func137 (by kernel_rfl)) C6 fun _ _=>by kernel_rfl
def ajY:aE:=aE.ofIO (⟨200,12,[⟨LD,LL FV⟩]⟩::Lk7) bD io0
theorem acY:ajY.Ok Pg:=aE.ofIO_ok aO ⟨⟨adD,TT⟩,ak7⟩
def ML (α:Type)(c d:Nat)(a e g h:Int)(k1:Nat->Nat->Int->Int->Op α):Op α:=
 iw α c d a
 (fun i j b=>cK (b != 0)
 (k1 0 0 0 b)
 (FV α i j a e g h
 (fun l m o=>f9 α l m o
 (fun p q r s=>k1 p q r s))))
def EB:jY:=sld ML
def Q5:PT (List DV):=pA [pV true [(dX .f64),(dI .i64)],pV false [(dFn 200 [(dP [(dFn 169 [])] 0),(dP [(dI .i64),(dI .i64),(dI .i64)] 0)])]]
def NA (v:jY)(α:Type)(k:RT α):Nat->Nat->I4 (Op α):=fun a b c d e g=>v α a b c d e g (fun h i j l=>bt k h i j l)
theorem aeQ:al Pg 137 31 ⟨Q5,NA EB⟩:=iP acY DS (ah Tryz.func137 (by kernel_rfl)) C6 fun _ _=>by kernel_rfl
def aiY:aE:=aE.ofIO (⟨200,12,[⟨ME,L4 ES⟩]⟩::Lk7) bD io0
theorem agi:aiY.Ok Pg:=aE.ofIO_ok aO ⟨⟨abS,TT⟩,ak7⟩
def Lc (α:Type)(c d:Nat)(a e g h:Int)(k1:Nat->Nat->Int->Int->Op α):Op α:=
 iw α c d a
 (fun i j b=>cK (b != 0)
 (k1 0 0 0 b)
 (ES α i j a e g h
 (fun l m o=>f9 α l m o
 (fun p q r s=>k1 p q r s))))
def FU:jY:=sld Lc
def NM:PT (List DV):=pA [pV true [(dX .f64),(dI .i64)],pV false [(dFn 200 [(dP [(dFn 177 [])] 0),(dP [(dI .i64),(dI .i64),(dI .i64)] 0)])]]
def Mp (v:jY)(α:Type)(k:RT α):Nat->Nat->I4 (Op α):=fun a b c d e g=>v α a b c d e g (fun h i j l=>bt k h i j l)
theorem agv:al Pg 137 31 ⟨NM,Mp FU⟩:=iP agi DS (ah Tryz.func137 (by kernel_rfl)) C6 fun _ _=>by kernel_rfl
abbrev xH:Type 1:=(α:Type)->Nat->Nat->Int->(Nat->Nat->Int->Int->Op α)->Op α
def M3 (α:Type)(d e:Nat)(a:Int)(k1:Nat->Nat->Int->Int->Op α):Op α:=
 iw α d e a
 (fun g h b=>cK (b != 0)
 (k1 0 0 0 b)
 (rA α g h a
 (fun i j l c=>cK (c != 0)
 (k1 0 0 0 c)
 (f9 α i j l
 (fun m o p q=>k1 m o p q)))))
def FE:xH:=sld M3
def PA:PT (List DV):=pA [pV true [(dX .f64),(dI .i64)],pV false [(dFn 138 [])]]
def M6 (v:xH)(α:Type)(k:RT α):Nat->Nat->Int->Op α:=fun a b c=>v α a b c (fun d e g h=>bt k d e g h)
theorem ad5:al Pg 137 31 ⟨PA,M6 FE⟩:=iP ek7 DS (ah Tryz.func137 (by kernel_rfl)) C6 fun _ _=>by kernel_rfl
def ajV:aE:=aE.ofIO (⟨200,12,[⟨LU,OD GI⟩]⟩::Lk7) bD io0
theorem agb:ajV.Ok Pg:=aE.ofIO_ok aO ⟨⟨agT,TT⟩,ak7⟩
def MN (α:Type)(d e:Nat)(a g h i:Int)(k1:Nat->Nat->Int->Int->Op α):Op α:=
 iw α d e a
 (fun j l b=>cK (b != 0)
 (k1 0 0 0 b)
 (GI α j l a g h i
 (fun m o p c=>cK (c != 0)
 (k1 0 0 0 c)
 (f9 α m o p
 (fun q r s t=>k1 q r s t)))))
def Fk:jY:=sld MN
def Nd:PT (List DV):=pA [pV true [(dX .f64),(dI .i64)],pV false [(dFn 200 [(dP [(dFn 173 [])] 0),(dP [(dI .i64),(dI .i64),(dI .i64)] 0)])]]
def NE (v:jY)(α:Type)(k:RT α):Nat->Nat->I4 (Op α):=fun a b c d e g=>v α a b c d e g (fun h i j l=>bt k h i j l)
theorem agI:al Pg 137 31 ⟨Nd,NE Fk⟩:=iP agb DS (ah Tryz.func137 (by kernel_rfl)) C6 fun _ _=>by kernel_rfl
def atC:SG:=[(9,iT),(14,[.cpx .f64,.int .i64]),(20,iS 4)]
def atN:TG:=[tT 0 [0,3,4],tT 1 [0,3,4,10],tT 2 [0,4],tT 3 [0,3,4,5],tT 4 [0,4,5],tT 5 [0,4]]
def asM:au:=aD Pg Tryz.f33 atN aX
def Vm:PT (List RV):=pRs [pR true [rD (dI .i64),rD (dI .i64),rD (dI .i64),rD (dI .i64)],pR true [rD (dI .i64),rD (dI .i64),rD (dI .i64),rD (dI .i64),rD (dI .i64),rD (dI .i64),rD (dI .i64),rD dL,rD (dI .i64),rD (dI .i64)]]
def I1 {β:Type}(g:List RV->β):Int->Int->Int->Int->Int->Int->Int->Int->Int->Int->Int->ae->Int->Int->β:=Vm.unc g
abbrev UR:Type 1:=(α:Type)->Int->Nat->Nat->Int->(I5 (Op α))->Op α
def Uj (α:Type)(a:Int)(b c:Nat)(d:Int)(k1:I5 (Op α)):Op α:=
 cK (a != 0)
 (k1 0 0 0 0 a)
 (Hs α b c d
 (fun e g h i j=>k1 e g h i j))
def wK:UR:=sld Uj
def Wm:PT (List DV):=pA [pV false [(dMr [(dI .i64),(dI .i64),(dI .i64),(dI .i64),(dI .i64),(dI .i64),(dI .i64),dL,(dI .i64),(dI .i64)] 0)],pV true [(dX .f64),(dI .i64)]]
def VY (v:UR)(α:Type)(k:RT α):Int->Int->Int->Int->Int->Int->Int->ae->Int->Int->Nat->Nat->Int->Op α:=fun a b c d e g h i j l m o p=>v α a m o p (fun q r s t w=>I1 k q r s t w b c d e g h i j l)
theorem ajj:al Pg 33 21 ⟨Wm,VY wK⟩:=iP ek7 asM (ah Tryz.func33 (by kernel_rfl)) atC fun _ _=>by kernel_rfl
def ar6:SG:=[(4,[.cpx .f64,.int .i64])]
def asN:TG:=[tT 0 [1,2],tT 1 [2,3]]
def aty:au:=aD Pg Tryz.f84 asN aX
noncomputable abbrev Lk8:List bz:=⟨137,31,[⟨PA,M6 FE⟩]⟩::⟨33,21,[⟨Wm,VY wK⟩]⟩::⟨164,18,[⟨bB,N7 vH⟩]⟩::Lk7
theorem ak8:bF Lk8 fun c=>bF c.l (al Pg c.f c.nt):=⟨⟨ad5,TT⟩,⟨ajj,TT⟩,⟨adX,TT⟩,ak7⟩
def Ek8:aE:=aE.ofIO Lk8 bD io0
theorem ek8:Ek8.Ok Pg:=aE.ofIO_ok aO ak8
def ZU (α:Type)(a b:Nat)(c:Int)(k1:Nat->Nat->Int->Int->Op α):Op α:=
 FE α a b c
 (fun d e g h=>k1 d e g h)
def Ck:xH:=sld ZU
def aaj (v:xH)(α:Type)(k:RT α):Nat->Nat->Int->Op α:=fun a b c=>v α a b c (fun d e g h=>bt k d e g h)
theorem ame:al Pg 84 8 ⟨nw,aaj Ck⟩:=iP ek8 aty (ah Tryz.func84 (by kernel_rfl)) ar6 fun _ _=>by kernel_rfl
def anM:SG:=[(6,[.cpx .f64,.int .i64])]
def aoH:TG:=[tT 0 [2,3,4],tT 1 [4,5]]
def amX:au:=aD Pg Tryz.f135 aoH aX
def ala:aE:=aE.ofIO (⟨137,31,[⟨Ov,M9 Gu⟩]⟩::Lk8) bD io0
theorem adV:ala.Ok Pg:=aE.ofIO_ok aO ⟨⟨agX,TT⟩,ak8⟩
def Ra (α:Type)(a b:Nat)(c d:Int)(k1:Nat->Nat->Int->Int->Op α):Op α:=
 Gu α a b c d
 (fun e g h i=>k1 e g h i)
def rp:yk:=sld Ra
def Pb:PT (List DV):=pA [pV true [(dX .f64),(dI .i64)],vI]
def LQ (v:yk)(α:Type)(k:RT α):Nat->Nat->Int->Int->Op α:=fun a b c d=>v α a b c d (fun e g h i=>bt k e g h i)
theorem agt:al Pg 135 11 ⟨Pb,LQ rp⟩:=iP adV amX (ah Tryz.func135 (by kernel_rfl)) anM fun _ _=>by kernel_rfl
def Rp:SG:=[(11,[.cpx .f64,.int .i64]),(19,[.cpx .f64,.int .i64])]
def anR:TG:=[tT 0 [3,4,5,6],tT 1 [4,5,6,8,9],tT 2 [4,5,6,8,9,16],tT 3 [6,7],tT 4 [6,7]]
def NS:au:=aD Pg Tryz.f166 anR aX
def ai9:aE:=aE.ofIO (⟨137,31,[⟨L8,N8 Ff⟩]⟩::Lk8) bD io0
theorem adf:ai9.Ok Pg:=aE.ofIO_ok aO ⟨⟨ab5,TT⟩,ak8⟩
abbrev dV:Type 1:=(α:Type)->Nat->Nat->Int->Nat->Nat->Int->(Nat->Nat->Int->Int->Op α)->Op α
def Rr (α:Type)(c d:Nat)(a:Int)(e g:Nat)(h:Int)(k1:Nat->Nat->Int->Int->Op α):Op α:=
 iw α c d a
 (fun i j b=>cK (b != 0)
 (k1 0 0 0 b)
 (Ff α e g h i j a
 (fun l m o p=>k1 l m o p)))
def Gn:dV:=sld Rr
def NY:PT (List DV):=pA [pV true [(dX .f64),(dI .i64)],pV true [(dX .f64),(dI .i64)],pV false [(dFn 167 [])]]
def Qc (v:dV)(α:Type)(k:RT α):Nat->Nat->Int->Nat->Nat->Int->Op α:=fun a b c d e g=>v α a b c d e g (fun h i j l=>bt k h i j l)
theorem ads:al Pg 166 24 ⟨NY,Qc Gn⟩:=iP adf NS (ah Tryz.func166 (by kernel_rfl)) Rp fun _ _=>by kernel_rfl
def aiM:aE:=aE.ofIO (⟨137,31,[⟨Q5,NA EB⟩]⟩::Lk8) bD io0
theorem ab0:aiM.Ok Pg:=aE.ofIO_ok aO ⟨⟨aeQ,TT⟩,ak8⟩
def Lw (α:Type)(c d:Nat)(a:Int)(e g:Nat)(h:Int)(k1:Nat->Nat->Int->Int->Op α):Op α:=
 iw α c d a
 (fun i j b=>cK (b != 0)
 (k1 0 0 0 b)
 (EB α e g h i j a
 (fun l m o p=>k1 l m o p)))
def E0:dV:=sld Lw
def MO:PT (List DV):=pA [pV true [(dX .f64),(dI .i64)],pV true [(dX .f64),(dI .i64)],pV false [(dFn 169 [])]]
def NF (v:dV)(α:Type)(k:RT α):Nat->Nat->Int->Nat->Nat->Int->Op α:=fun a b c d e g=>v α a b c d e g (fun h i j l=>bt k h i j l)
theorem ae8:al Pg 166 24 ⟨MO,NF E0⟩:=iP ab0 NS (ah Tryz.func166 (by kernel_rfl)) Rp fun _ _=>by kernel_rfl
def ajO:aE:=aE.ofIO (⟨137,31,[⟨NM,Mp FU⟩]⟩::Lk8) bD io0
theorem af7:ajO.Ok Pg:=aE.ofIO_ok aO ⟨⟨agv,TT⟩,ak8⟩
def MQ (α:Type)(c d:Nat)(a:Int)(e g:Nat)(h:Int)(k1:Nat->Nat->Int->Int->Op α):Op α:=
 iw α c d a
 (fun i j b=>cK (b != 0)
 (k1 0 0 0 b)
 (FU α e g h i j a
 (fun l m o p=>k1 l m o p)))
def FZ:dV:=sld MQ
def Rj:PT (List DV):=pA [pV true [(dX .f64),(dI .i64)],pV true [(dX .f64),(dI .i64)],pV false [(dFn 177 [])]]
def MW (v:dV)(α:Type)(k:RT α):Nat->Nat->Int->Nat->Nat->Int->Op α:=fun a b c d e g=>v α a b c d e g (fun h i j l=>bt k h i j l)
theorem abH:al Pg 166 24 ⟨Rj,MW FZ⟩:=iP af7 NS (ah Tryz.func166 (by kernel_rfl)) Rp fun _ _=>by kernel_rfl
def alb:aE:=aE.ofIO (⟨137,31,[⟨Nd,NE Fk⟩]⟩::Lk8) bD io0
theorem adn:alb.Ok Pg:=aE.ofIO_ok aO ⟨⟨agI,TT⟩,ak8⟩
def Nq (α:Type)(c d:Nat)(a:Int)(e g:Nat)(h:Int)(k1:Nat->Nat->Int->Int->Op α):Op α:=
 iw α c d a
 (fun i j b=>cK (b != 0)
 (k1 0 0 0 b)
 (Fk α e g h i j a
 (fun l m o p=>k1 l m o p)))
def Fr:dV:=sld Nq
def LE:PT (List DV):=pA [pV true [(dX .f64),(dI .i64)],pV true [(dX .f64),(dI .i64)],pV false [(dFn 173 [])]]
def QV (v:dV)(α:Type)(k:RT α):Nat->Nat->Int->Nat->Nat->Int->Op α:=fun a b c d e g=>v α a b c d e g (fun h i j l=>bt k h i j l)
theorem ab8:al Pg 166 24 ⟨LE,QV Fr⟩:=iP adn NS (ah Tryz.func166 (by kernel_rfl)) Rp fun _ _=>by kernel_rfl
def aqR:SG:=[(9,iS 2),(19,iT),(22,iT),(26,iT),(35,iT),(39,iT),(42,iT),(52,[.cpx .f64,.int .i64])]
def atP:TG:=[tT 0 [1,2],tT 1 [1,2,5],tT 2 [1,2,5,14],tT 3 [2,3],tT 4 [1,2,17],tT 5 [2,3],tT 6 [1,2,33],tT 7 [2,6,7],tT 8 [2,6,7,49],tT 9 [2,3],tT 10 [2,3],tT 11 [2,3]]
def aoV:au:=aD Pg Tryz.f85 atP aX
def Zw (α:Type)(a b:Int)(k1:Nat->Nat->Int->Int->Op α):Op α:=
 mi α a b
 (fun l m o c=>cK (c != 0)
 (k1 0 0 0 c)
 (cK (decide (0<=a))
 (eM α (w64 (a*1048576))
 (fun d=>nh α (w64 (b*1048576))
 (fun e=>mi α d e
 (fun g h i j=>k1 g h i j))))
 (cK (decide (b<=0))
 (none)
 (k1 0 0 0 14))))
def ID:fV:=sld Zw
def Xf (v:fV)(α:Type)(k:RT α):Int->Int->Op α:=fun a b=>v α a b (fun c d e g=>bt k c d e g)
theorem alO:al Pg 85 57 ⟨bB,Xf ID⟩:=iP ek8 aoV (ah Tryz.func85 (by kernel_rfl)) aqR fun _ _=>by kernel_rfl
noncomputable abbrev Lk9:List bz:=⟨85,57,[⟨bB,Xf ID⟩]⟩::⟨135,11,[⟨Pb,LQ rp⟩]⟩::⟨166,24,[⟨Rj,MW FZ⟩]⟩::⟨84,8,[⟨nw,aaj Ck⟩]⟩::Lk8
theorem ak9:bF Lk9 fun c=>bF c.l (al Pg c.f c.nt):=⟨⟨alO,TT⟩,⟨agt,TT⟩,⟨abH,TT⟩,⟨ame,TT⟩,ak8⟩
def Ek9:aE:=aE.ofIO Lk9 bD io0
theorem ek9:Ek9.Ok Pg:=aE.ofIO_ok aO ak9
def Yi (α:Type)(a b:Int)(k1:Nat->Nat->Int->Int->Op α):Op α:=
 mi α a b
 (fun w z A c=>cK (c != 0)
 (k1 0 0 0 c)
 (cK (decide (0<=a))
 (eM α (w64 (a*1048576))
 (fun e=>nh α (w64 (b*1048576))
 (fun g=>mi α e g
 (fun h i j l=>k1 h i j l))))
 (cK (decide (b<=0))
 (ID α (w64 (0 - b)) (w64 (0 - a))
 (fun m o p d=>cK (d != 0)
 (k1 0 0 0 d)
 (rp α m o p 1
 (fun q r s t=>k1 q r s t))))
 (k1 0 0 0 14))))
def Do:fV:=sld Yi
def aaf (v:fV)(α:Type)(k:RT α):Int->Int->Op α:=fun a b=>v α a b (fun c d e g=>bt k c d e g)
theorem aj9:al Pg 85 57 ⟨bB,aaf Do⟩:=iP ek9 aoV (ah Tryz.func85 (by kernel_rfl)) aqR fun _ _=>by kernel_rfl
def MB:SG:=[(6,[.cpx .f64,.int .i64]),(7,[.cpx .f64,.int .i64])]
def aoj:TG:=[tT 0 [2,3,4],tT 1 [4,5]]
def aq6:au:=aD Pg Tryz.f132 aoj aX
def Pj (α:Type)(a b:Nat)(c:Int)(d e:Nat)(g:Int)(k1:Nat->Nat->Int->Int->Op α):Op α:=
 FZ α a b c d e g
 (fun h i j l=>k1 h i j l)
def Ak:dV:=sld Pj
def j4:PT (List DV):=pA [pV true [(dX .f64),(dI .i64)],pV true [(dX .f64),(dI .i64)]]
def OM (v:dV)(α:Type)(k:RT α):Nat->Nat->Int->Nat->Nat->Int->Op α:=fun a b c d e g=>v α a b c d e g (fun h i j l=>bt k h i j l)
theorem agB:al Pg 132 11 ⟨j4,OM Ak⟩:=iP ek9 aq6 (ah Tryz.func132 (by kernel_rfl)) MB fun _ _=>by kernel_rfl
def ann:TG:=[tT 0 [2,3,4],tT 1 [4,5]]
def amR:au:=aD Pg Tryz.f130 ann aX
def al1:aE:=aE.ofIO (⟨166,24,[⟨MO,NF E0⟩]⟩::Lk9) bD io0
theorem acb:al1.Ok Pg:=aE.ofIO_ok aO ⟨⟨ae8,TT⟩,ak9⟩
def Pm (α:Type)(a b:Nat)(c:Int)(d e:Nat)(g:Int)(k1:Nat->Nat->Int->Int->Op α):Op α:=
 E0 α a b c d e g
 (fun h i j l=>k1 h i j l)
def v9:dV:=sld Pm
def P0 (v:dV)(α:Type)(k:RT α):Nat->Nat->Int->Nat->Nat->Int->Op α:=fun a b c d e g=>v α a b c d e g (fun h i j l=>bt k h i j l)
theorem abO:al Pg 130 11 ⟨j4,P0 v9⟩:=iP acb amR (ah Tryz.func130 (by kernel_rfl)) MB fun _ _=>by kernel_rfl
def aox:TG:=[tT 0 [2,3,4],tT 1 [4,5]]
def aqT:au:=aD Pg Tryz.f129 aox aX
def aiL:aE:=aE.ofIO (⟨166,24,[⟨NY,Qc Gn⟩]⟩::Lk9) bD io0
theorem ahf:aiL.Ok Pg:=aE.ofIO_ok aO ⟨⟨ads,TT⟩,ak9⟩
def LG (α:Type)(a b:Nat)(c:Int)(d e:Nat)(g:Int)(k1:Nat->Nat->Int->Int->Op α):Op α:=
 Gn α a b c d e g
 (fun h i j l=>k1 h i j l)
def B2:dV:=sld LG
def Pi (v:dV)(α:Type)(k:RT α):Nat->Nat->Int->Nat->Nat->Int->Op α:=fun a b c d e g=>v α a b c d e g (fun h i j l=>bt k h i j l)
theorem acU:al Pg 129 11 ⟨j4,Pi B2⟩:=iP ahf aqT (ah Tryz.func129 (by kernel_rfl)) MB fun _ _=>by kernel_rfl
def aom:TG:=[tT 0 [2,3,4],tT 1 [4,5]]
def aq0:au:=aD Pg Tryz.f131 aom aX
def aiT:aE:=aE.ofIO (⟨166,24,[⟨LE,QV Fr⟩]⟩::Lk9) bD io0
theorem ago:aiT.Ok Pg:=aE.ofIO_ok aO ⟨⟨ab8,TT⟩,ak9⟩
def PP (α:Type)(a b:Nat)(c:Int)(d e:Nat)(g:Int)(k1:Nat->Nat->Int->Int->Op α):Op α:=
 Fr α a b c d e g
 (fun h i j l=>k1 h i j l)
def Bh:dV:=sld PP
def Ms (v:dV)(α:Type)(k:RT α):Nat->Nat->Int->Nat->Nat->Int->Op α:=fun a b c d e g=>v α a b c d e g (fun h i j l=>bt k h i j l)
theorem afZ:al Pg 131 11 ⟨j4,Ms Bh⟩:=iP ago aq0 (ah Tryz.func131 (by kernel_rfl)) MB fun _ _=>by kernel_rfl
def O9:SG:=[(12,iT),(17,[.cpx .f64,.int .i64]),(18,[.cpx .f64,.int .i64])]
def aqk:TG:=[tT 0 [0,1,6,7,8],tT 1 [0,1,6,7,8,13],tT 2 [0,8],tT 3 [0,8]]
def LA:au:=aD Pg Tryz.f128 aqk aX
noncomputable abbrev ajq:List bz:=⟨129,11,[⟨j4,Pi B2⟩]⟩::⟨130,11,[⟨j4,P0 v9⟩]⟩::⟨132,11,[⟨j4,OM Ak⟩]⟩::⟨131,11,[⟨j4,Ms Bh⟩]⟩::Lk9
theorem apV:bF ajq fun c=>bF c.l (al Pg c.f c.nt):=⟨⟨acU,TT⟩,⟨abO,TT⟩,⟨agB,TT⟩,⟨afZ,TT⟩,ak9⟩
def atF:aE:=aE.ofIO ajq bD io0
theorem acr:atF.Ok Pg:=aE.ofIO_ok aO apV
abbrev dW:Type 1:=(α:Type)->Int->Nat->Nat->Int->Nat->Nat->Int->(Nat->Nat->Int->Int->Op α)->Op α
def NV (α:Type)(a:Int)(b c:Nat)(d:Int)(e g:Nat)(h:Int)(k1:Nat->Nat->Int->Int->Op α):Op α:=
 cK (a != 0)
 (k1 0 0 0 a)
 (B2 α b c d e g h
 (fun i j l m=>fI α
 (k1 i j l m)))
def Gx:dW:=sld NV
def Nw:PT (List DV):=pA [pV false [(dMr [(dI .i64),(dI .i64),(dI .i64),(dI .i64),(dI .i64),(dI .i64),(dI .i64),dL,(dI .i64),(dI .i64)] 0)],pV false [(dFn 129 [])],pV true [(dX .f64),(dI .i64)],pV true [(dX .f64),(dI .i64)]]
def Nf (v:dW)(α:Type)(k:RT α):Int->Int->Int->Int->Int->Int->Int->ae->Int->Int->Nat->Nat->Int->Nat->Nat->Int->Op α:=fun a b c d e g h i j l m o p q r s=>v α a m o p q r s (fun t w z A=>dq k t w z A b c d e g h i j l)
theorem adp:al Pg 128 23 ⟨Nw,Nf Gx⟩:=iP acr LA (ah Tryz.func128 (by kernel_rfl)) O9 fun _ _=>by kernel_rfl
def QN (α:Type)(a:Int)(b c:Nat)(d:Int)(e g:Nat)(h:Int)(k1:Nat->Nat->Int->Int->Op α):Op α:=
 cK (a != 0)
 (k1 0 0 0 a)
 (v9 α b c d e g h
 (fun i j l m=>fI α
 (k1 i j l m)))
def Gf:dW:=sld QN
def LP:PT (List DV):=pA [pV false [(dMr [(dI .i64),(dI .i64),(dI .i64),(dI .i64),(dI .i64),(dI .i64),(dI .i64),dL,(dI .i64),(dI .i64)] 0)],pV false [(dFn 130 [])],pV true [(dX .f64),(dI .i64)],pV true [(dX .f64),(dI .i64)]]
def PX (v:dW)(α:Type)(k:RT α):Int->Int->Int->Int->Int->Int->Int->ae->Int->Int->Nat->Nat->Int->Nat->Nat->Int->Op α:=fun a b c d e g h i j l m o p q r s=>v α a m o p q r s (fun t w z A=>dq k t w z A b c d e g h i j l)
theorem ag8:al Pg 128 23 ⟨LP,PX Gf⟩:=iP acr LA (ah Tryz.func128 (by kernel_rfl)) O9 fun _ _=>by kernel_rfl
def Q3 (α:Type)(a:Int)(b c:Nat)(d:Int)(e g:Nat)(h:Int)(k1:Nat->Nat->Int->Int->Op α):Op α:=
 cK (a != 0)
 (k1 0 0 0 a)
 (Ak α b c d e g h
 (fun i j l m=>fI α
 (k1 i j l m)))
def F4:dW:=sld Q3
def La:PT (List DV):=pA [pV false [(dMr [(dI .i64),(dI .i64),(dI .i64),(dI .i64),(dI .i64),(dI .i64),(dI .i64),dL,(dI .i64),(dI .i64)] 0)],pV false [(dFn 132 [])],pV true [(dX .f64),(dI .i64)],pV true [(dX .f64),(dI .i64)]]
def QI (v:dW)(α:Type)(k:RT α):Int->Int->Int->Int->Int->Int->Int->ae->Int->Int->Nat->Nat->Int->Nat->Nat->Int->Op α:=fun a b c d e g h i j l m o p q r s=>v α a m o p q r s (fun t w z A=>dq k t w z A b c d e g h i j l)
theorem afa:al Pg 128 23 ⟨La,QI F4⟩:=iP acr LA (ah Tryz.func128 (by kernel_rfl)) O9 fun _ _=>by kernel_rfl
def Pr (α:Type)(a:Int)(b c:Nat)(d:Int)(e g:Nat)(h:Int)(k1:Nat->Nat->Int->Int->Op α):Op α:=
 cK (a != 0)
 (k1 0 0 0 a)
 (Bh α b c d e g h
 (fun i j l m=>fI α
 (k1 i j l m)))
def EJ:dW:=sld Pr
def PU:PT (List DV):=pA [pV false [(dMr [(dI .i64),(dI .i64),(dI .i64),(dI .i64),(dI .i64),(dI .i64),(dI .i64),dL,(dI .i64),(dI .i64)] 0)],pV false [(dFn 131 [])],pV true [(dX .f64),(dI .i64)],pV true [(dX .f64),(dI .i64)]]
def Qb (v:dW)(α:Type)(k:RT α):Int->Int->Int->Int->Int->Int->Int->ae->Int->Int->Nat->Nat->Int->Nat->Nat->Int->Op α:=fun a b c d e g h i j l m o p q r s=>v α a m o p q r s (fun t w z A=>dq k t w z A b c d e g h i j l)
theorem ahl:al Pg 128 23 ⟨PU,Qb EJ⟩:=iP acr LA (ah Tryz.func128 (by kernel_rfl)) O9 fun _ _=>by kernel_rfl
def afw:SG:=[(8,[.cpx .f64,.int .i64]),(9,[.cpx .f64,.int .i64])]
def asd:TG:=[tT 0 [0,4,5,6],tT 1 [0,6]]
def ata:au:=aD Pg Tryz.f78 asd aX
noncomputable abbrev VG:List bz:=⟨128,23,[⟨La,QI F4⟩]⟩::ajq
theorem adx:bF VG fun c=>bF c.l (al Pg c.f c.nt):=⟨⟨afa,TT⟩,apV⟩
def ase:aE:=aE.ofIO VG bD io0
theorem asQ:ase.Ok Pg:=aE.ofIO_ok aO adx
def abi (α:Type)(a:Int)(b c:Nat)(d:Int)(e g:Nat)(h:Int)(k1:Nat->Nat->Int->Int->Op α):Op α:=
 F4 α a b c d e g h
 (fun i j l m=>k1 i j l m)
def xp:dW:=sld abi
def kE:PT (List DV):=pA [pV false [(dMr [(dI .i64),(dI .i64),(dI .i64),(dI .i64),(dI .i64),(dI .i64),(dI .i64),dL,(dI .i64),(dI .i64)] 0)],pV true [(dX .f64),(dI .i64)],pV true [(dX .f64),(dI .i64)]]
def Zx (v:dW)(α:Type)(k:RT α):Int->Int->Int->Int->Int->Int->Int->ae->Int->Int->Nat->Nat->Int->Nat->Nat->Int->Op α:=fun a b c d e g h i j l m o p q r s=>v α a m o p q r s (fun t w z A=>dq k t w z A b c d e g h i j l)
theorem ake:al Pg 78 11 ⟨kE,Zx xp⟩:=iP asQ ata (ah Tryz.func78 (by kernel_rfl)) afw fun _ _=>by kernel_rfl
def asP:TG:=[tT 0 [0,4,5,6],tT 1 [0,6]]
def arZ:au:=aD Pg Tryz.f76 asP aX
def apS:aE:=aE.ofIO (⟨128,23,[⟨LP,PX Gf⟩]⟩::VG) bD io0
theorem akz:apS.Ok Pg:=aE.ofIO_ok aO ⟨⟨ag8,TT⟩,adx⟩
def VE (α:Type)(a:Int)(b c:Nat)(d:Int)(e g:Nat)(h:Int)(k1:Nat->Nat->Int->Int->Op α):Op α:=
 Gf α a b c d e g h
 (fun i j l m=>k1 i j l m)
def eC:dW:=sld VE
def YV (v:dW)(α:Type)(k:RT α):Int->Int->Int->Int->Int->Int->Int->ae->Int->Int->Nat->Nat->Int->Nat->Nat->Int->Op α:=fun a b c d e g h i j l m o p q r s=>v α a m o p q r s (fun t w z A=>dq k t w z A b c d e g h i j l)
theorem akE:al Pg 76 11 ⟨kE,YV eC⟩:=iP akz arZ (ah Tryz.func76 (by kernel_rfl)) afw fun _ _=>by kernel_rfl
def atZ:TG:=[tT 0 [0,4,5,6],tT 1 [0,6]]
def arX:au:=aD Pg Tryz.f75 atZ aX
def aqK:aE:=aE.ofIO (⟨128,23,[⟨Nw,Nf Gx⟩]⟩::VG) bD io0
theorem akU:aqK.Ok Pg:=aE.ofIO_ok aO ⟨⟨adp,TT⟩,adx⟩
def Wr (α:Type)(a:Int)(b c:Nat)(d:Int)(e g:Nat)(h:Int)(k1:Nat->Nat->Int->Int->Op α):Op α:=
 Gx α a b c d e g h
 (fun i j l m=>k1 i j l m)
def iF:dW:=sld Wr
def Xk (v:dW)(α:Type)(k:RT α):Int->Int->Int->Int->Int->Int->Int->ae->Int->Int->Nat->Nat->Int->Nat->Nat->Int->Op α:=fun a b c d e g h i j l m o p q r s=>v α a m o p q r s (fun t w z A=>dq k t w z A b c d e g h i j l)
theorem aja:al Pg 75 11 ⟨kE,Xk iF⟩:=iP akU arX (ah Tryz.func75 (by kernel_rfl)) afw fun _ _=>by kernel_rfl
def aoK:SG:=[(25,[.cpx .f64,.int .i64]),(28,[.cpx .f64,.int .i64]),(34,[.cpx .f64,.int .i64]),(41,[.cpx .f64,.int .i64]),(45,[.cpx .f64,.int .i64]),(50,[.cpx .f64,.int .i64,.cpx .f64,.int .i64,.cpx .f64,.int .i64,.cpx .f64,.int .i64])]
def aqS:TG:=[tT 0 [0,4,5,6],tT 1 [0,4,5,6,7],tT 2 [0,4,5,6,7,12],tT 3 [0,4,5,6,7,12,13],tT 4 [0,4,5,6,7,8,12],tT 5 [0,4,5,6,7,8,9,10,12],tT 6 [0,4,5,6,7,8,9,10,11,12],tT 7 [0,4,5,6,7,12],tT 8 [0,4,5,6,7,12],tT 9 [0,6]]
def anV:TG:=[tT 3 [0,4,5,6,7,12]]
def Yn:au:=aD Pg Tryz.f126 aqS anV
def arq:OT:=tdC (ag.sub [1,1,0,1,0] (emb Yn))
def RK:PT (List RV):=pRs [pR true [rD (dX .f64),rD (dI .i64),rD (dX .f64),rD (dI .i64),rD (dX .f64),rD (dI .i64),rD (dX .f64),rD (dI .i64)],pR true [rD (dI .i64),rD (dI .i64),rD (dI .i64),rD (dI .i64),rD (dI .i64),rD (dI .i64),rD (dI .i64),rD dL,rD (dI .i64),rD (dI .i64)]]
def CD {β:Type}(g:List RV->β):Nat->Nat->Int->Nat->Nat->Int->Nat->Nat->Int->Nat->Nat->Int->Int->Int->Int->Int->Int->Int->Int->ae->Int->Int->β:=RK.unc g
noncomputable abbrev agk:List bz:=⟨76,11,[⟨kE,YV eC⟩]⟩::⟨75,11,[⟨kE,Xk iF⟩]⟩::⟨78,11,[⟨kE,Zx xp⟩]⟩::VG
theorem amq:bF agk fun c=>bF c.l (al Pg c.f c.nt):=⟨⟨akE,TT⟩,⟨aja,TT⟩,⟨ake,TT⟩,adx⟩
def ara:aE:=aE.ofIO agk bD io0
theorem aqd:ara.Ok Pg:=aE.ofIO_ok aO amq
abbrev Rh:Type 1:=(α:Type)->Int->Nat->Nat->Int->Nat->Nat->Int->Nat->Nat->Int->Nat->Nat->Int->Nat->Nat->Int->Nat->Nat->Int->Nat->Nat->Int->Nat->Nat->Int->(Nat->Nat->Int->Nat->Nat->Int->Nat->Nat->Int->Nat->Nat->Int->Int->Op α)->Op α
def Pp (α:Type)(G:Int)(a b:Nat)(c:Int)(d e:Nat)(g:Int)(h i:Nat)(j:Int)(l m:Nat)(o:Int)(p q:Nat)(r:Int)(s t:Nat)(w:Int)(z A:Nat)(B:Int)(C D:Nat)(F:Int)(k1:Nat->Nat->Int->Nat->Nat->Int->Nat->Nat->Int->Nat->Nat->Int->Int->Op α):Op α:=
 eC α G a b c p q r
 (fun H I J L=>eC α L d e g z A B
 (fun M N O P=>iF α P H I J M N O
 (fun Q R T U=>eC α U a b c s t w
 (fun V W X Y=>eC α Y d e g C D F
 (fun Z a0 a1 a2=>iF α a2 V W X Z a0 a1
 (fun a3 a4 a5 a6=>eC α a6 h i j p q r
 (fun a7 a8 a9 b0=>eC α b0 l m o z A B
 (fun b1 b2 b3 b4=>iF α b4 a7 a8 a9 b1 b2 b3
 (fun b5 b6 b7 b8=>eC α b8 h i j s t w
 (fun b9 c0 c1 c2=>eC α c2 l m o C D F
 (fun c3 c4 c5 c6=>iF α c6 b9 c0 c1 c3 c4 c5
 (fun c7 c8 c9 d0=>k1 Q R T a3 a4 a5 b5 b6 b7 c7 c8 c9 d0))))))))))))
def v5:Rh:=sld Pp
def QW:PT (List DV):=pA [pV false [(dMr [(dI .i64),(dI .i64),(dI .i64),(dI .i64),(dI .i64),(dI .i64),(dI .i64),dL,(dI .i64),(dI .i64)] 0)],pV true [(dX .f64),(dI .i64),(dX .f64),(dI .i64),(dX .f64),(dI .i64),(dX .f64),(dI .i64)],pV true [(dX .f64),(dI .i64),(dX .f64),(dI .i64),(dX .f64),(dI .i64),(dX .f64),(dI .i64)]]
def My (v:Rh)(α:Type)(k:RT α):Int->Int->Int->Int->Int->Int->Int->ae->Int->Int->Nat->Nat->Int->Nat->Nat->Int->Nat->Nat->Int->Nat->Nat->Int->Nat->Nat->Int->Nat->Nat->Int->Nat->Nat->Int->Nat->Nat->Int->Op α:=fun a b c d e g h i j l m o p q r s t w z A B C D F G H I J L M N O P Q=>v α a m o p q r s t w z A B C D F G H I J L M N O P Q (fun R T U V W X Y Z a0 a1 a2 a3 a4=>CD k R T U V W X Y Z a0 a1 a2 a3 a4 b c d e g h i j l)
def aeJ:ag:=(ag.put (.u 5) [1,1,0,1,0] (emb Yn))
theorem afF:al Pg 126 51 ⟨QW,My v5⟩:=iZ aqd (ah Tryz.func126 (by kernel_rfl)) aoK aeJ ((aw _ _).trans (aG _)) (aak (by decide) (aM Yn)) fun _ _=>by kernel_rfl
def arV:TG:=[tT 0 [0,4,5,6],tT 1 [0,6]]
def atJ:au:=aD Pg Tryz.f77 arV aX
def amA:aE:=aE.ofIO (⟨128,23,[⟨PU,Qb EJ⟩]⟩::agk) bD io0
theorem aj0:amA.Ok Pg:=aE.ofIO_ok aO ⟨⟨ahl,TT⟩,amq⟩
def Vz (α:Type)(a:Int)(b c:Nat)(d:Int)(e g:Nat)(h:Int)(k1:Nat->Nat->Int->Int->Op α):Op α:=
 EJ α a b c d e g h
 (fun i j l m=>k1 i j l m)
def wV:dW:=sld Vz
def WE (v:dW)(α:Type)(k:RT α):Int->Int->Int->Int->Int->Int->Int->ae->Int->Int->Nat->Nat->Int->Nat->Nat->Int->Op α:=fun a b c d e g h i j l m o p q r s=>v α a m o p q r s (fun t w z A=>dq k t w z A b c d e g h i j l)
theorem alD:al Pg 77 11 ⟨kE,WE wV⟩:=iP aj0 atJ (ah Tryz.func77 (by kernel_rfl)) afw fun _ _=>by kernel_rfl
def apd:SG:=[(19,iT),(23,iT),(29,[.cpx .f64,.int .i64]),(39,iT),(44,[.cpx .f64,.int .i64]),(52,[.cpx .f64,.int .i64]),(53,[.cpx .f64,.int .i64])]
def asC:TG:=[tT 0 [0,1,4],tT 1 [0,4,5,6],tT 2 [0,4,6,7],tT 3 [0,4,6,7,28],tT 4 [0,4],tT 5 [0,4,7,8],tT 6 [0,4,7,8,40],tT 7 [0,4,7,8],tT 8 [0,4]]
def akf:au:=aD Pg Tryz.f80 asC aX
def Ey:PT St:=pSv [(0,500000000,0)] [sl 0 (aV false [(gn 500000000 0)]),sP 4,sP 7,sP 8] [aB 500000000 [xI,xI,xI,xI,xI,xI,xI,(cD dL),xI,xI],aB 4 [(cD (dX .f64)),xI],aB 7 [(cD (dX .f64)),xI],aB 8 [(cD (dX .f64)),xI]]
def ag9 {β:Type}(g:St->β):Int->Int->Int->Int->Int->Int->Int->ae->Int->Int->Nat->Nat->Int->Nat->Nat->Int->Nat->Nat->Int->β:=Ey.unc g
def abR:PT St:=pSv [(0,500000000,0)] [sl 0 (aV false [(gn 500000000 0)]),sP 4,sP 7,sP 8,sY 40 dB] [aB 500000000 [xI,xI,xI,xI,xI,xI,xI,(cD dL),xI,xI],aB 4 [(cD (dX .f64)),xI],aB 7 [(cD (dX .f64)),xI],aB 8 [(cD (dX .f64)),xI]]
def acE {β:Type}(g:St->β):Bool->Int->Int->Int->Int->Int->Int->Int->ae->Int->Int->Nat->Nat->Int->Nat->Nat->Int->Nat->Nat->Int->β:=abR.unc g
def Zc:ag:=ag.sub [1,1,1,1,1,0] (emb akf)
abbrev HT:Type 1:=(α:Type)->Int->Nat->Nat->Int->(Int->Nat->Nat->Int->Op α)->(Bool->Op α)->Op α
def IL (α:Type)(a:Int)(b c:Nat)(d:Int)(k1:Int->Nat->Nat->Int->Op α)(k2:Bool->Op α):Op α:=
 cK (a == 0)
 (rp α b c d 1
 (fun e g h i=>fI α
 (k1 i e g h)))
 (k2 (a == 0))
def yd:HT:=sld IL
def Nn (v:HT)(α:Type)(K:KT α):Int->Int->Int->Int->Int->Int->Int->ae->Int->Int->Nat->Nat->Int->Nat->Nat->Int->Nat->Nat->Int->Op α:=fun b c d e g h i j l m o p q r s t w z A=>v α b w z A (fun a B C D=>ag9 (K .normal) a c d e g h i j l m o p q r s t B C D) (fun a=>acE (K .normal) a b c d e g h i j l m o p q r s t w z A)
theorem ab1:∀ (α:Type) (K:KT α),Nn yd α K=Ey.unc fun σ=>aF Pg ara apd Zc K σ:=bM (fun α K=>by kernel_rfl)
abbrev WS:Type 1:=(α:Type)->Int->Int->ae->Int->Int->Int->(Nat->Nat->Int->Int->Op α)->Op α
def YU (α:Type)(l m:Int)(o:ae)(p q r:Int)(k1:Nat->Nat->Int->Int->Op α):Op α:=
 An α m o p q r
 (fun s t d=>nU α (w64 (s*1048576)) 10000
 (fun w=>mT α (w64 (t*1048576)) 10000
 (fun z=>wY α l w z
 (fun a b c e=>cK (d == 0)
 (k1 a b c e)
 (vS α e d 10000
 (fun g h i j=>yd α j g h i
 (fun A B C D=>iF α A a b c B C D
 (fun F G H I=>k1 F G H I))
 (fun O=>iF α j a b c g h i
 (fun J L M N=>k1 J L M N))))))))
def Eq:WS:=sld YU
def Y3 (v:WS)(α:Type)(k:RT α):Int->Int->Int->Int->Int->Int->Int->ae->Int->Int->Int->Op α:=fun e a g h i j l b c d m=>v α e a b c d m (fun o p q r=>dq k o p q r a g h i j l b c d)
def ajk:ag:=(ag.put (.m [⟨Ey,Nn yd⟩]) [1,1,1,1,1] (emb akf))
theorem akq:al Pg 80 55 ⟨kQ,Y3 Eq⟩:=iZ aqd (ah Tryz.func80 (by kernel_rfl)) apd ajk ((aw _ _).trans (aG _)) (aY (by kernel_rfl) (aM akf) ⟨ab1,TT⟩) fun _ _=>by kernel_rfl
def aqa:SG:=[(23,[.cpx .f64,.int .i64]),(25,[.cpx .f64,.int .i64]),(34,[.cpx .f64,.int .i64]),(36,[.cpx .f64,.int .i64]),(41,[.cpx .f64,.int .i64]),(42,[.cpx .f64,.int .i64]),(47,[.cpx .f64,.int .i64]),(48,[.cpx .f64,.int .i64]),(50,[.cpx .f64,.int .i64]),(51,[.cpx .f64,.int .i64]),(52,[.cpx .f64,.int .i64]),(53,[.cpx .f64,.int .i64])]
def ao9:TG:=[tT 0 [0,4,5,6],tT 1 [0,4,5,6,7],tT 2 [0,4,5,6,7,8],tT 3 [0,4,6,8,9],tT 4 [0,4,6,8,9,10],tT 5 [0,6,8,10,11],tT 6 [0,6]]
def aq4:au:=aD Pg Tryz.f127 ao9 aX
noncomputable abbrev agd:List bz:=⟨77,11,[⟨kE,WE wV⟩]⟩::⟨80,55,[⟨kQ,Y3 Eq⟩]⟩::⟨126,51,[⟨QW,My v5⟩]⟩::agk
theorem alv:bF agd fun c=>bF c.l (al Pg c.f c.nt):=⟨⟨alD,TT⟩,⟨akq,TT⟩,⟨afF,TT⟩,amq⟩
def asD:aE:=aE.ofIO agd bD io0
theorem atw:asD.Ok Pg:=aE.ofIO_ok aO alv
abbrev NU:Type 1:=(α:Type)->Int->Nat->Nat->Int->Nat->Nat->Int->(Nat->Nat->Int->Nat->Nat->Int->Nat->Nat->Int->Nat->Nat->Int->Int->Op α)->Op α
def PM (α:Type)(s:Int)(a b:Nat)(c:Int)(d e:Nat)(g:Int)(k1:Nat->Nat->Int->Nat->Nat->Int->Nat->Nat->Int->Nat->Nat->Int->Int->Op α):Op α:=
 vS α s 1 2
 (fun h i j t=>mr α
 (iF α t 4697254411347427328 0 0 d e g
 (fun w z A B=>eC α B w z A h i j
 (fun l m o C=>mr α
 (xp α C 4697254411347427328 0 0 d e g
 (fun D F G H=>eC α H D F G h i j
 (fun p q r I=>wV α I p q r a b c
 (fun J L M N=>eC α N p q r a b c
 (fun O P Q R=>k1 l m o J L M O P Q l m o R)))))))))
def vu:NU:=sld PM
def Lq (v:NU)(α:Type)(k:RT α):Int->Int->Int->Int->Int->Int->Int->ae->Int->Int->Nat->Nat->Int->Nat->Nat->Int->Op α:=fun a b c d e g h i j l m o p q r s=>v α a m o p q r s (fun t w z A B C D F G H I J L=>CD k t w z A B C D F G H I J L b c d e g h i j l)
theorem adt:al Pg 127 55 ⟨kE,Lq vu⟩:=iP atw aq4 (ah Tryz.func127 (by kernel_rfl)) aqa fun _ _=>by kernel_rfl
def asK:SG:=[(22,iT),(28,iT),(36,iT),(42,iT),(50,[.cpx .f64,.int .i64]),(51,[.cpx .f64,.int .i64]),(56,[.cpx .f64,.int .i64]),(60,[.cpx .f64,.int .i64]),(61,[.cpx .f64,.int .i64]),(76,iT),(82,[.cpx .f64,.int .i64]),(90,[.cpx .f64,.int .i64]),(97,iT),(103,iS 2),(109,iT)]
def asR:TG:=[tT 0 [0,1,4],tT 1 [0,1,4,6],tT 2 [0,1,4,6,7],tT 3 [0,1,4,7,8],tT 4 [0,1,4,8],tT 5 [0,4,8,10],tT 6 [0,4,8,71],tT 7 [0,4,8,77],tT 8 [0,4,5],tT 9 [0,4,5],tT 10 [0,4,11],tT 11 [0,4,11,98],tT 12 [0,4,5],tT 13 [0,4,5]]
def auc:au:=aD Pg Tryz.f35 asR aX
def Tw:PT (List RV):=pRs [pR true [rD (dX .f64),rD (dI .i64)],pR false [rD dB],pR true [rD (dI .i64),rD (dI .i64),rD (dI .i64),rD (dI .i64),rD (dI .i64),rD (dI .i64),rD (dI .i64),rD dL,rD (dI .i64),rD (dI .i64)]]
def Vr {β:Type}(g:List RV->β):Nat->Nat->Int->Bool->Int->Int->Int->Int->Int->Int->Int->ae->Int->Int->β:=Tw.unc g
def aqp:aE:=aE.ofIO (⟨85,57,[⟨bB,aaf Do⟩]⟩::agd) bD io0
theorem alo:aqp.Ok Pg:=aE.ofIO_ok aO ⟨⟨aj9,TT⟩,alv⟩
abbrev aac:Type 1:=(α:Type)->Int->Int->Int->Int->ae->Int->Int->Int->(Nat->Nat->Int->Bool->Int->Op α)->Op α
def Y6 (α:Type)(w a z A:Int)(c:ae)(d e g:Int)(k1:Nat->Nat->Int->Bool->Int->Op α):Op α:=
 Eq α w a c d e g
 (fun h i j B=>nU α (w64 ((w64 (a*z))*1048576)) 100000000
 (fun C=>mT α (w64 ((w64 (a*A))*1048576)) 100000000
 (fun D=>wY α B C D
 (fun l m o F=>eC α F h i j h i j
 (fun G H I J=>eC α J l m o l m o
 (fun L M N O=>xp α O G H I L M N
 (fun p q r b=>An α a c d e g
 (fun a0 a1 P=>cK (P != 0)
 (cK (b != 0)
 (k1 0 0 0 false b)
 (Ck α p q r
 (fun Q R T U=>fI α
 (k1 Q R T false U))))
 (wK α b p q r
 (fun s V a2 a3 t=>cK (t != 0)
 (k1 0 0 0 false t)
 (Do α s V
 (fun W X Y Z=>fI α
 (k1 W X Y (decide (s < 0)) Z)))))))))))))
def Bk:aac:=sld Y6
def Zz (v:aac)(α:Type)(k:RT α):Int->Int->Int->Int->Int->Int->Int->ae->Int->Int->Int->Op α:=fun h a b c i j l d e g m=>v α h a b c d e g m (fun o p q r s=>Vr k o p q r s a b c i j l d e g)
theorem aiH:al Pg 35 111 ⟨kQ,Zz Bk⟩:=iP alo auc (ah Tryz.func35 (by kernel_rfl)) asK fun _ _=>by kernel_rfl
def ah4:SG:=[(20,[.cpx .f64,.int .i64]),(26,[.sl]),(29,iS 5),(30,iS 5),(35,iT),(41,iS 4),(46,iS 2),(50,iT),(54,iT),(61,iT),(64,iT),(68,iT),(75,iT),(80,iS 4)]
def ant:TG:=[tT 0 [0,1,4],tT 1 [0,1,4,5,6],tT 2 [0,1,4,6,7],tT 3 [0,4,6,7,8],tT 5 [0,4,6,7,8,33],tT 6 [0,4,7,8,37],tT 7 [0,4,7,8],tT 4 [0,4,7,8],tT 8 [0,4,7,8,41,42],tT 9 [0,4,7,8,41,42,43],tT 10 [0,4,7,8,9,10,41,42],tT 11 [0,4,7,8,9,10,41,42],tT 12 [0,4,7,8,41,42],tT 13 [0,4,7,8,41,42],tT 14 [0,4]]
def ap9:TG:=[tT 9 [0,4,7,8,41,42]]
def Po:au:=aD Pg Tryz.f163 ant ap9
def aqq:OT:=tdC (ag.sub [1,1,1,1,1,0,1,0] (emb Po))
def At:PT St:=pSv [(0,500000000,0)] [sl 0 (aV false [(gn 500000000 0)]),sP 4,sY 6 dB,sP 7,sP 8] [aB 500000000 [xI,xI,xI,xI,xI,xI,xI,(cD dL),xI,xI],aB 4 (xs 4),aB 7 (xs 4),aB 8 (xs 5)]
def apE {β:Type}(g:St->β):Bool->Int->Int->Int->Int->Int->Int->Int->ae->I15 β:=At.unc g
def Vc:PT St:=pSv [(0,500000000,0)] [sl 0 (aV false [(gn 500000000 0)]),sP 4,sY 6 dB,sP 7,sP 8,sY 33 dB] [aB 500000000 [xI,xI,xI,xI,xI,xI,xI,(cD dL),xI,xI],aB 4 (xs 4),aB 7 (xs 4),aB 8 (xs 5)]
def Zk {β:Type}(g:St->β):Bool->Bool->Int->Int->Int->Int->Int->Int->Int->ae->I15 β:=Vc.unc g
def abB:PT St:=pSv [(0,500000000,0)] [sl 0 (aV false [(gn 500000000 0)]),sP 4,sP 7,sP 8] [aB 500000000 [xI,xI,xI,xI,xI,xI,xI,(cD dL),xI,xI],aB 4 (xs 4),aB 7 (xs 4),aB 8 (xs 5)]
def WZ {β:Type}(g:St->β):Int->Int->Int->Int->Int->Int->Int->ae->I15 β:=abB.unc g
noncomputable abbrev aiN:List bz:=⟨35,111,[⟨kQ,Zz Bk⟩]⟩::⟨127,55,[⟨kE,Lq vu⟩]⟩::agd
theorem ano:bF aiN fun c=>bF c.l (al Pg c.f c.nt):=⟨⟨aiH,TT⟩,⟨adt,TT⟩,alv⟩
def aot:aE:=aE.ofIO aiN bD io0
theorem amJ:aot.Ok Pg:=aE.ofIO_ok aO ano
def XS:ag:=ag.sub [1,1,1,1,0] (emb Po)
abbrev DI:Type 1:=(α:Type)->Bool->Int->Int->Int->Int->Int->(Bool->Op α)->(I4 (Op α))->Op α
def De (α:Type)(b:Bool)(c d e g a:Int)(k1:Bool->Op α)(k2:I4 (Op α)):Op α:=
 cK (a != 0)
 (k1 (a != 0))
 (cK b
 (k2 0 0 e g)
 (k2 c d 0 0))
def tJ:DI:=sld De
def Ig (v:DI)(α:Type)(K:KT α):Bool->Int->Int->Int->Int->Int->Int->Int->ae->I15 (Op α):=fun c d e g h i j l m o p q r s t w z A B C D F G a=>v α c w z A B a (fun b=>Zk (K .normal) c b d e g h i j l m o p q r s t w z A B C D F G a) (fun b H I J=>WZ (K .normal) d e g h i j l m o p q r s t b H I J C D F G a)
theorem X9:∀ (α:Type) (K:KT α),Ig tJ α K=At.unc fun σ=>aF Pg aot ah4 XS K σ:=bM (fun α K=>by kernel_rfl)
abbrev Qy:Type 1:=(α:Type)->Int->Int->Int->Int->Int->Int->ae->Int->Int->Int->(I5 (Op α))->Op α
def Qu (α:Type)(o p q r a b:Int)(e:ae)(s t g:Int)(k1:I5 (Op α)):Op α:=
 Bk α o p q r e s t g
 (fun w z A B C=>wK α C w z A
 (fun h i j l m=>gq e (w64 (g - 1)) [.int .i64,.int .i64,.int .i64,.int .i64,.int .i64]
 (fun a1 a2 c d D=>tJ α B h i j l D
 (fun a3=>uZ α h i
 (fun F G=>nU α (w64 ((w64 (4*F))*c)) b
 (fun H=>mT α (w64 ((w64 (4*G))*d)) a
 (fun I=>uZ α j l
 (fun J L=>nU α (w64 ((w64 (4*J))*c)) b
 (fun M=>mT α (w64 ((w64 (4*L))*d)) a
 (fun N=>k1 H I M N m)))))))
 (fun O P Q R=>uZ α O P
 (fun T U=>nU α (w64 ((w64 (4*T))*c)) b
 (fun V=>mT α (w64 ((w64 (4*U))*d)) a
 (fun W=>uZ α Q R
 (fun X Y=>nU α (w64 ((w64 (4*X))*c)) b
 (fun Z=>mT α (w64 ((w64 (4*Y))*d)) a
 (fun a0=>k1 V W Z a0 m))))))))))
def zC:Qy:=sld Qu
def Qx (v:Qy)(α:Type)(k:RT α):Int->Int->Int->Int->Int->Int->Int->ae->Int->Int->Int->Op α:=fun j a b c l d e g h i m=>v α j a b c d e g h i m (fun o p q r s=>I1 k o p q r s a b c l d e g h i)
def adj:ag:=(ag.put (.m [⟨At,Ig tJ⟩]) [1,1,1,1] (ag.put (.u 3) [1,1,1,1,1,0,1,0] (emb Po)))
theorem ahk:al Pg 163 81 ⟨kQ,Qx zC⟩:=iZ amJ (ah Tryz.func163 (by kernel_rfl)) ah4 adj ((aw _ _).trans ((aw _ _).trans (aG _))) (aY (by kernel_rfl) (aak (by decide) (aM Po)) ⟨X9,TT⟩) fun _ _=>by kernel_rfl
def arT:SG:=[(18,iT),(20,[.cpx .f64,.int .i64]),(30,[.cpx .f64,.int .i64]),(31,[.cpx .f64,.int .i64]),(33,[.cpx .f64,.int .i64])]
def atB:TG:=[tT 0 [0,1,4],tT 1 [0,1,4,5],tT 2 [0,1,4,5,19],tT 3 [0,4],tT 4 [0,4,5,7],tT 5 [0,4]]
def as1:au:=aD Pg Tryz.f34 atB aX
abbrev aaH:Type 1:=(α:Type)->Int->Int->Int->Int->Int->ae->Int->Int->Int->(Nat->Nat->Int->Int->Op α)->Op α
def Xz (α:Type)(p a q r s:Int)(b:ae)(c d e:Int)(k1:Nat->Nat->Int->Int->Op α):Op α:=
 Bk α p a q r b c d e
 (fun g h i H j=>cK (s == 0)
 (k1 g h i j)
 (Eq α j a b c d e
 (fun l m o t=>eC α t l m o l m o
 (fun w z A B=>wV α B w z A g h i
 (fun C D F G=>k1 C D F G)))))
def nv:aaH:=sld Xz
def Z9 (v:aaH)(α:Type)(k:RT α):Int->Int->Int->Int->Int->Int->Int->ae->Int->Int->Int->Op α:=fun i a b c d j l e g h m=>v α i a b c d e g h m (fun o p q r=>dq k o p q r a b c d j l e g h)
theorem alq:al Pg 34 35 ⟨kQ,Z9 nv⟩:=iP amJ as1 (ah Tryz.func34 (by kernel_rfl)) arT fun _ _=>by kernel_rfl
def ahK:SG:=[(22,iT),(28,iT),(37,iT),(43,iT),(46,iT),(53,iS 2),(62,iT),(68,iS 2),(79,iT),(85,[.cpx .f64,.int .i64]),(90,iT),(92,iT)]
def anD:TG:=[tT 0 [0,1,2,6],tT 1 [0,2,6,7],tT 2 [0,2,6,7,14],tT 3 [0,2,6,7,14,15],tT 4 [0,2,6,7,8,14],tT 5 [0,2,6,7,14],tT 6 [0,2,6,7,14],tT 7 [0,6,7,38],tT 8 [0,6],tT 9 [0,6,7,9],tT 10 [0,6,7,9,48],tT 11 [0,6,7,9],tT 12 [0,6,7,9,63],tT 13 [0,6],tT 14 [0,6,7,9,10],tT 15 [0,6,9,10],tT 16 [0,6,9,10,80],tT 17 [0,6],tT 18 [0,6]]
def aoO:TG:=[tT 3 [0,2,6,7,14]]
def OB:au:=aD Pg Tryz.f125 anD aoO
def arp:OT:=tdC (ag.sub [1,1,0,1,0] (emb OB))
def zL:PT St:=pSv [(0,500000000,0)] [sl 0 (aV false [(gn 500000000 0)]),sP 6,sP 7,sP 9] [aB 500000000 [xI,xI,xI,xI,xI,xI,xI,(cD dL),xI,xI],aB 6 [(cD (dX .f64)),xI],aB 7 (xs 4),aB 9 [(cD (dX .f64)),xI]]
def V5 {β:Type}(g:St->β):Int->Int->Int->Int->Int->Int->Int->ae->Int->Int->Nat->Nat->Int->Int->Int->Int->Int->Nat->Nat->Int->β:=zL.unc g
def T5:PT St:=pSv [(0,500000000,0)] [sl 0 (aV false [(gn 500000000 0)]),sP 6,sP 7,sP 9,sY 48 dB] [aB 500000000 [xI,xI,xI,xI,xI,xI,xI,(cD dL),xI,xI],aB 6 [(cD (dX .f64)),xI],aB 7 (xs 4),aB 9 [(cD (dX .f64)),xI]]
def ZP {β:Type}(g:St->β):Bool->Int->Int->Int->Int->Int->Int->Int->ae->Int->Int->Nat->Nat->Int->Int->Int->Int->Int->Nat->Nat->Int->β:=T5.unc g
noncomputable abbrev alK:List bz:=⟨163,81,[⟨kQ,Qx zC⟩]⟩::⟨34,35,[⟨kQ,Z9 nv⟩]⟩::aiN
theorem am3:bF alK fun c=>bF c.l (al Pg c.f c.nt):=⟨⟨ahk,TT⟩,⟨alq,TT⟩,ano⟩
def anx:aE:=aE.ofIO alK bD io0
theorem asx:anx.Ok Pg:=aE.ofIO_ok aO am3
def SJ:ag:=ag.sub [1,1,1,1,1,0] (emb OB)
abbrev DY:Type 1:=(α:Type)->Int->Int->(Int->Nat->Nat->Int->Op α)->(Bool->Op α)->Op α
def Dc (α:Type)(a b:Int)(k1:Int->Nat->Nat->Int->Op α)(k2:Bool->Op α):Op α:=
 cK (decide ((w64 (b - a)) < 1048576))
 (vH α a b
 (fun c d e g=>fI α
 (k1 g c d e)))
 (k2 (decide ((w64 (b - a)) < 1048576)))
def rH:DY:=sld Dc
def GP (v:DY)(α:Type)(K:KT α):Int->Int->Int->Int->Int->Int->Int->ae->Int->Int->Nat->Nat->Int->Int->Int->Int->Int->Nat->Nat->Int->Op α:=fun w d e g h i j l m o p q r a b s t z A B=>v α a b (fun c C D F=>V5 (K .normal) c d e g h i j l m o p q r a b s t C D F) (fun c=>ZP (K .normal) c w d e g h i j l m o p q r a b s t z A B)
theorem Yy:∀ (α:Type) (K:KT α),GP rH α K=zL.unc fun σ=>aF Pg anx ahK SJ K σ:=bM (fun α K=>by kernel_rfl)
abbrev Pw:Type 1:=(α:Type)->Int->Int->Int->Int->Int->Int->ae->Int->Int->Int->Int->(Nat->Nat->Int->Int->Op α)->Op α
def L3 (α:Type)(i j l m o p:Int)(q:ae)(r s t a:Int)(k1:Nat->Nat->Int->Int->Op α):Op α:=
 zC α i j l m o p q r s t
 (fun w z e g b=>cK (b != 0)
 (k1 0 0 0 b)
 (rH α (w64 (a*w)) (w64 (a*z))
 (fun h A B C=>cK (h != 0)
 (k1 0 0 0 h)
 (rg α (w64 (a*e)) (w64 (a*g))
 (fun D F c=>cK (c != 0)
 (k1 0 0 0 c)
 (wY α c D F
 (fun G H I J=>eC α J A B C G H I
 (fun L M N O=>k1 L M N O))))))
 (fun a0=>cK (b != 0)
 (k1 0 0 0 b)
 (rg α (w64 (a*e)) (w64 (a*g))
 (fun P Q d=>cK (d != 0)
 (k1 0 0 0 d)
 (wY α d P Q
 (fun R T U V=>eC α V 0 0 1048576 R T U
 (fun W X Y Z=>k1 W X Y Z))))))))
def we:Pw:=sld L3
def PG (v:Pw)(α:Type)(k:RT α):Int->Int->Int->Int->Int->Int->Int->ae->I4 (Op α):=fun j a b c l d e g h i m o=>v α j a b c d e g h i m o (fun p q r s=>dq k p q r s a b c l d e g h i)
def af2:ag:=(ag.put (.u 3) [1,1,0,1,0] (ag.put (.m [⟨zL,GP rH⟩]) [1,1,1,1,1] (emb OB)))
theorem afN:al Pg 125 95 ⟨qm,PG we⟩:=iZ asx (ah Tryz.func125 (by kernel_rfl)) ahK af2 ((aw _ _).trans ((aw _ _).trans (aG _))) (aak (by decide) (aY (by kernel_rfl) (aM OB) ⟨Yy,TT⟩)) fun _ _=>by kernel_rfl
end
end Go.AM.K
