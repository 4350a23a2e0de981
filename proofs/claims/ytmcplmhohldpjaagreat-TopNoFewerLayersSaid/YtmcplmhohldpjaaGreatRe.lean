/- Printed by KGen. -/
import Derived.Test.YtmcplmhohldpjaaGreatRd
namespace Go.AM.K
open Go.Proofs
set_option maxRecDepth 100000
set_option linter.unusedVariables false
noncomputable section
def atB:SG:=[(26,[.sl]),(34,[.cpx .f64,.int .i64]),(39,[.cpx .f64,.int .i64]),(40,[.cpx .f64,.int .i64]),(47,[.cpx .f64,.int .i64]),(52,[.cpx .f64,.int .i64]),(53,[.cpx .f64,.int .i64]),(59,[.cpx .f64,.int .i64]),(60,[.cpx .f64,.int .i64]),(65,[.cpx .f64,.int .i64]),(66,[.cpx .f64,.int .i64]),(78,[.cpx .f64,.int .i64]),(79,[.cpx .f64,.int .i64]),(81,[.cpx .f64,.int .i64]),(83,[.cpx .f64,.int .i64]),(91,[.cpx .f64,.int .i64]),(92,[.cpx .f64,.int .i64]),(94,[.cpx .f64,.int .i64])]
def asr:TG:=[tT 0 [0,1,4],tT 1 [0,1,4,5],tT 2 [0,1,4,5,6,7],tT 3 [0,1,4,5,6,7,8],tT 4 [0,1,4,5,6,7,8,9],tT 5 [0,1,4,5,7,9,10],tT 6 [0,1,4,5,7,10,11],tT 7 [0,1,4,5,7,10,11,12],tT 8 [0,4,5,7,10,11,12,68],tT 9 [0,4],tT 10 [0,4]]
def asW:au:=aB Pg Tryz.f32 asr aR
noncomputable abbrev akA:List bC:=⟨74,59,[⟨D7,ZR G8⟩]⟩::ajf
theorem aqj:bF akA fun c=>bF c.l (al Pg c.f c.nt):=⟨⟨aif,TT⟩,amg⟩
def ar1:aE:=aE.ofIO akA bG io0
theorem arP:ar1.Ok Pg:=aE.ofIO_ok aP aqj
abbrev SX:Type 1:=(α:Type)->Int->Int->Int->Int->Int->Int->Int->ae->Int->Int->Bool->(Nat->Nat->Int->Int->Op α)->Op α
def aaU (α:Type)(G b c d e H I:Int)(a:ae)(g h:Int)(m:Bool)(k1:Nat->Nat->Int->Int->Op α):Op α:=
 mH α G b c d e a g h 0
 (fun i j l J=>G8 α J b c d e H I a g h m
 (fun L M N O P Q R T U V W X Y Z a0 a1=>mH α a1 b c d e a g h (w64 (((List.length a:Nat):Int)+1))
 (fun o p q a2=>eA α a2 O P Q o p q
 (fun a3 a4 a5 a6=>ir α a6 L M N a3 a4 a5
 (fun a7 a8 a9 b0=>eA α b0 V W X o p q
 (fun b1 b2 b3 b4=>ir α b4 R T U b1 b2 b3
 (fun r s t b5=>eA α b5 i j l a7 a8 a9
 (fun w z A b6=>ir α b6 w z A r s t
 (fun B C D F=>cK m
 (ir α F i j l i j l
 (fun b7 b8 b9 c0=>eA α c0 b7 b8 b9 Y Z a0
 (fun c1 c2 c3 c4=>vY α c4 c1 c2 c3 B C D
 (fun c5 c6 c7 c8=>k1 c5 c6 c7 c8))))
 (wt α F w z A r s t
 (fun c9 d0 d1 d2=>vY α d2 c9 d0 d1 B C D
 (fun d3 d4 d5 d6=>k1 d3 d4 d5 d6))))))))))))
def Cy:SX:=sld aaU
def Wz (v:SX)(α:Type)(k:RT α):Int->Int->Int->Int->Int->Int->Int->ae->Int->Int->Bool->Op α:=fun l a b c d e g h i j m=>v α l a b c d e g h i j m (fun o p q r=>dj k o p q r a b c d e g h i j)
theorem ajW:al Pg 32 96 ⟨D7,Wz Cy⟩:=iP arP asW (ag Tryz.func32 (by kernel_rfl)) atB fun _ _=>by kernel_rfl
def ara:SG:=[(17,[.int .i64,.int .i64,.int .i64,.int .i64,.int .i64,.int .i64,.sl,.int .i64,.int .i64]),(30,[.sl]),(58,iT),(65,iT),(67,iT),(71,[.cpx .f64,.int .i64]),(80,[.cpx .f64,.int .i64]),(88,iS 2),(90,iS 2),(93,iT),(95,iT),(98,iT),(101,iT),(103,iT),(106,iT),(117,iS 2),(119,iS 2),(122,iS 6)]
def asc:TG:=[tT 0 [1,2],tT 1 [1,2,4,5],tT 2 [1,2,4,5,22],tT 3 [2,3],tT 4 [1,2,4,6],tT 5 [1,2,4,6,7],tT 6 [2,4,6,7,8],tT 7 [2,4,6,7,8,9,10],tT 8 [2,4,6,7,9,10,12],tT 9 [2,4,6,7,9,10,12,59],tT 10 [2,3],tT 11 [2,4,6,7,9,10,12,68],tT 12 [2,3],tT 13 [2,4,5,7,9,10,12,13],tT 14 [2,4,5,7,9,10,12,13,76],tT 15 [2,3],tT 16 [2,4,5,9,10,12,13,14],tT 17 [2,4,5,9,10,12,13,14,85],tT 18 [2,3],tT 19 [2,4,9,10,12,13,14],tT 20 [2,4,12,15],tT 21 [2,4,15,111],tT 22 [2,4,15],tT 23 [2,15,115],tT 24 [2,15],tT 25 [2,3]]
def ajl:au:=aB Pg Tryz.f12 asc aR
def EJ:PT St:=pS [sP 2,sl 4 (aV false [(gi 18 0)]),sY 12 dB,sP 15] [az 2 (xs 6),az 18 [xI,xI,xI,xI,xI,xI,xI,(cD dL),xI,xI],az 15 (xs 6)]
def ars {β:Type}(g:St->β):Bool->Int->Int->Int->Int->Int->Int->Int->Int->Int->Int->Int->Int->Int->ae->I8 β:=EJ.unc g
def ae9:PT St:=pS [sP 2,sl 4 (aV false [(gi 18 0)]),sP 15] [az 2 (xs 6),az 18 [xI,xI,xI,xI,xI,xI,xI,(cD dL),xI,xI],az 15 (xs 6)]
def acl {β:Type}(g:St->β):Int->Int->Int->Int->Int->Int->Int->Int->Int->Int->Int->Int->Int->ae->I8 β:=ae9.unc g
def acY:PT St:=pS [sP 2,sl 4 (aV false [(gi 18 0)]),sP 15,sY 111 dB] [az 2 (xs 6),az 18 [xI,xI,xI,xI,xI,xI,xI,(cD dL),xI,xI],az 15 (xs 6)]
def aea {β:Type}(g:St->β):Bool->Int->Int->Int->Int->Int->Int->Int->Int->Int->Int->Int->Int->Int->ae->I8 β:=acY.unc g
def UE:PT (List RV):=pRs [pR true [rD (dI .i64),rD (dI .i64),rD (dI .i64),rD (dI .i64),rD (dI .i64),rD (dI .i64)],wI]
def Yo {β:Type}(g:List RV->β):I7 β:=UE.unc g
noncomputable abbrev aji:List bC:=⟨32,96,[⟨D7,Wz Cy⟩]⟩::akA
theorem anz:bF aji fun c=>bF c.l (al Pg c.f c.nt):=⟨⟨ajW,TT⟩,aqj⟩
def arp:aE:=aE.ofIO aji bG io0
theorem as8:arp.Ok Pg:=aE.ofIO_ok aP anz
def X3:ah:=ah.sub [1,1,1,1,1,1,1,1,1,1,1,1,1,1,1,1,0] (emb ajl)
abbrev sk:Type 1:=(α:Type)->Bool->(Op α)->(Op α)->Op α
def GQ (α:Type)(a:Bool)(k1:Op α)(k2:Op α):Op α:=
 cK a
 (k1)
 (k2)
def sm:sk:=sld GQ
def Of (v:sk)(α:Type)(K:KT α):Bool->Int->Int->Int->Int->Int->Int->Int->Int->Int->Int->Int->Int->Int->ae->I8 (Op α):=fun a b c d e g h i j l m o p q r s t w z C D A B=>v α a (acl (K .normal) b c d e g h i j l m o p q r s t w z 0 0 A B) (aea (K .normal) a b c d e g h i j l m o p q r s t w z C D A B)
theorem abk:∀ (α:Type) (K:KT α),Of sm α K=EJ.unc fun σ=>aF Pg arp ara X3 K σ:=bR (fun α K=>by kernel_rfl)
abbrev TP:Type 1:=(α:Type)->Int->Int->Int->Int->Int->Int->ae->Int->Int->(I7 (Op α))->Op α
def Wx (α:Type)(b e g j l m:Int)(a:ae)(c d:Int)(k1:I7 (Op α)):Op α:=
 Pu α b e g j l m a c d
 (fun q=>cK (q != 0)
 (k1 0 0 0 0 0 0 q)
 (Cy α 0 b e g j l m a c d false
 (fun z A B C=>Cy α C b e g j l m a c d true
 (fun D F G H=>mH α H b e g j a c d (w64 (((List.length a:Nat):Int)+1))
 (fun I J L M=>wj α M I J L
 (fun N O b2 b3 P=>mH α P b e g j a c d 0
 (fun Q R T U=>wj α U Q R T
 (fun r V b4 b5 W=>yn α W b e g a c d (w64 (((List.length a:Nat):Int)+1))
 (fun b6 b7 b8 X s=>cK (s != 0)
 (k1 0 0 0 0 0 0 s)
 (cK (decide (r<=0))
 (k1 0 0 0 0 0 0 9)
 (Af α z A B
 (fun Y Z t=>cK (t != 0)
 (k1 0 0 0 0 0 0 t)
 (Af α D F G
 (fun a0 a1 w=>cK (w != 0)
 (k1 0 0 0 0 0 0 w)
 (tD α N O
 (fun a2 a3=>Dz α Y Z
 (fun h i=>my α (w64 (a2*a0)) V
 (fun a4=>nx α (w64 (a3*a1)) r
 (fun a5=>Dz α a4 a5
 (fun o p=>sm α X
 (v7 α b a c d
 (fun a6=>cK a6
 (v5 α h i 0 0
 (fun a7 a8=>k1 h i 0 0 a7 a8 0))
 (k1 h i 0 0 0 0 0)))
 (v7 α b a c d
 (fun a9=>cK a9
 (v5 α h i o p
 (fun b0 b1=>k1 h i o p b0 b1 0))
 (k1 h i o p 0 0 0)))))))))))))))))))))))
def zS:TP:=sld Wx
def Xi (v:TP)(α:Type)(k:RT α):Int->Int->Int->Int->Int->Int->ae->Int->Int->Op α:=fun a b c d e g h i j=>v α a b c d e g h i j (fun l m o p q r s=>Yo k l m o p q r s)
def ajv:ah:=(ah.put (.m [⟨EJ,Of sm⟩]) [1,1,1,1,1,1,1,1,1,1,1,1,1,1,1,1] (emb ajl))
theorem Yt:al Pg 12 123 ⟨uZ,Xi zS⟩:=iZ as8 (ag Tryz.func12 (by kernel_rfl)) ara ajv ((aA _ _).trans (aG _)) (bc (by kernel_rfl) (aK ajl) ⟨abk,TT⟩) fun _ _=>by kernel_rfl
def apr:SG:=[(10,[.sl,.sl,.int .i64,.int .i64]),(12,iS 9),(13,iS 4),(23,iS 2),(25,iS 2),(27,iS 2),(31,iT)]
def amW:TG:=[tT 0 [2,3,4],tT 1 [2,4,6,7],tT 2 [2,4,6,7,19],tT 3 [4,5],tT 4 [4,5]]
def ape:au:=aB Pg Tryz.f160 amW aR
noncomputable abbrev alW:List bC:=⟨12,123,[⟨uZ,Xi zS⟩]⟩::aji
theorem anb:bF alW fun c=>bF c.l (al Pg c.f c.nt):=⟨⟨Yt,TT⟩,anz⟩
def arR:aE:=aE.ofIO alW bG io0
theorem asv:arR.Ok Pg:=aE.ofIO_ok aP anb
abbrev KF:Type 1:=(α:Type)->ae->Int->Int->Int->Int->Int->Int->Int->Int->Int->(Int->Int->Int->Op α)->Op α
def Ld (α:Type)(c:ae)(d e a g h i j l m:Int)(k1:Int->Int->Int->Op α):Op α:=
 v6 α
 (zS α h l m g i j c d e
 (fun o p q r s t b=>cK (b != 0)
 (k1 0 0 b)
 (cK (a == 2)
 (k1 s t 0)
 (cK (a == 1)
 (k1 q r 0)
 (cK (a == 0)
 (k1 o p 0)
 (none))))))
def zE:KF:=sld Ld
def xO:PT (List DV):=pA [pV true [dL,dL,(dI .i64),(dI .i64),(dI .i64),(dI .i64),(dI .i64),(dI .i64),(dI .i64),(dI .i64),(dI .i64),(dI .i64),(dI .i64)],pV true [(dI .i64),(dI .i64),(dI .i64),(dI .i64)]]
def Ox (v:KF)(α:Type)(k:RT α):ae->ae->I15 (Op α):=fun q a b c d e g r s t w z A h i j l=>v α a b c d e g h i j l (fun m o p=>oL k m o p)
theorem afb:al Pg 160 33 ⟨xO,Ox zE⟩:=iP asv ape (ag Tryz.func160 (by kernel_rfl)) apr fun _ _=>by kernel_rfl
def ahU:SG:=[(12,[.sl,.sl,.int .i64,.int .i64,.int .i64,.int .i64,.int .i64,.int .i64,.int .i64,.int .i64,.int .i64,.int .i64,.int .i64]),(13,iS 4),(18,iT),(21,iT),(25,iT),(29,iT)]
def aqi:TG:=[tT 0 [2,3],tT 1 [2,5,6],tT 2 [6,7,8,9,10],tT 3 [7,8,9,10,31],tT 4 [4],tT 5 [7,8,9,10,34],tT 6 [4],tT 7 [43],tT 8 [4],tT 9 [4]]
def X8:au:=aB Pg Tryz.f118 aqi aR
def yu:PT St:=pS [sI 7,sI 8,sI 9,sI 10,sY 31 dB] []
def aow {β:Type}(g:St->β):Int->Int->Int->Int->Bool->β:=yu.unc g
def Xr:PT St:=pS [sI 7,sI 8,sI 9,sI 10,sY 34 dB] []
def aaq {β:Type}(g:St->β):Int->Int->Int->Int->Bool->β:=Xr.unc g
noncomputable abbrev akZ:List bC:=⟨160,33,[⟨xO,Ox zE⟩]⟩::alW
theorem anr:bF akZ fun c=>bF c.l (al Pg c.f c.nt):=⟨⟨afb,TT⟩,anb⟩
def apN:aE:=aE.ofIO akZ bG io0
theorem atP:apN.Ok Pg:=aE.ofIO_ok aP anr
def Sf:ah:=ah.sub [1,1,1,0,0,1,1,0] (emb X8)
def Dc (α:Type)(a b c d:Int)(k1:Bool->Op α):Op α:=
 cK (decide (c<=a))
 (k1 (decide (b<=d)))
 (k1 false)
def nr:jP:=sld Dc
def G3 (v:jP)(α:Type)(K:KT α):I4 (Bool->Op α):=fun a b c d g=>v α a b c d (fun e=>aaq (K .normal) a b c d e)
theorem Vt:∀ (α:Type) (K:KT α),G3 nr α K=yu.unc fun σ=>aF Pg apN ahU Sf K σ:=bR (fun α K=>by kernel_rfl)
abbrev PO:Type 1:=(α:Type)->ae->Int->Int->Int->Int->Int->Int->Int->Int->Int->Int->Int->(Int->Op α)->Op α
def Mg (α:Type)(e:ae)(g h i j l a b m o p q:Int)(k1:Int->Op α):Op α:=
 zE α e g h i j l m o p q
 (fun c d r=>cK (r != 0)
 (k1 1)
 (nr α (w64 (c*10000)) (w64 (d*10000)) (w64 (a*1048576)) (w64 (b*1048576))
 (fun s=>cK s
 (k1 2)
 (cK (decide ((w64 (d*10000)) < (w64 (a*1048576))))
 (k1 0)
 (cK (decide ((w64 (b*1048576)) < (w64 (c*10000))))
 (k1 0)
 (k1 1))))))
def ee:PO:=sld Mg
def Pf (v:PO)(α:Type)(k:RT α):ae->ae->I15 (Op α):=fun q a b c d e g r s t w h i j l m o=>v α a b c d e g h i j l m o (fun p=>bu k p)
def ael:ah:=(ah.put (.m [⟨yu,G3 nr⟩]) [1,1,1,0,0,1,1] (emb X8))
theorem ad1:al Pg 118 52 ⟨xO,Pf ee⟩:=iZ atP (ag Tryz.func118 (by kernel_rfl)) ahU ael ((aA _ _).trans (aG _)) (bc (by kernel_rfl) (aK X8) ⟨Vt,TT⟩) fun _ _=>by kernel_rfl
def wJ:SG:=[(14,[.sl,.sl,.int .i64,.int .i64,.int .i64,.int .i64,.int .i64,.int .i64,.int .i64,.int .i64,.int .i64,.int .i64,.int .i64]),(15,iS 4),(22,[.sl]),(28,iS 2),(31,iS 2),(37,[.sl,.sl,.int .i64,.int .i64,.int .i64,.int .i64,.int .i64,.int .i64,.int .i64,.int .i64,.int .i64,.int .i64,.int .i64]),(39,iT),(41,iT),(48,iS 4),(63,[.sl]),(70,iS 4),(77,iS 4),(84,iS 4)]
def aum:TG:=[tT 0 [0,2,4],tT 1 [0,2,4,17],tT 2 [0],tT 3 [0,6],tT 4 [0,2,4,7],tT 5 [0,2,4,7,44],tT 6 [0],tT 7 [0,6],tT 8 [0,2,4,8],tT 9 [0,2,4,8,55],tT 10 [0],tT 11 [0,6],tT 12 [0,2,4,8],tT 13 [0,2,9],tT 14 [0,6]]
def mb:au:=aB Pg Tryz.f73 aum aR
def gk:PT St:=pSv [(0,500000000,0)] [sl 0 (aV false [(gi 500000000 0)]),sI 2,sP 4,sI 8] [az 500000000 [(cD dL),(cD dL),xI,xI,xI,xI,xI,xI,xI,xI,xI,xI,xI,(bL 500000014),(cD dNP),(cD dB)],bM 500000014 1,az 4 (xs 4)]
def arz {β:Type}(g:St->β):Int->Int->ae->ae->Int->Int->Int->Int->Int->Int->Int->Int->Int->Int->Int->Bool->ae->I4 β:=gk.unc g
def aeW:PT St:=pSv [(0,500000000,0)] [sl 0 (aV false [(gi 500000000 0)]),sI 2,sP 4,sI 8,sY 55 dB] [az 500000000 [(cD dL),(cD dL),xI,xI,xI,xI,xI,xI,xI,xI,xI,xI,xI,(bL 500000014),(cD dNP),(cD dB)],bM 500000014 1,az 4 (xs 4)]
def rW {β:Type}(g:St->β):Int->Int->Bool->ae->ae->Int->Int->Int->Int->Int->Int->Int->Int->Int->Int->Int->Bool->ae->I4 β:=aeW.unc g
def aaW:PT (List RV):=pRs [pR false [rD dB],pR true [rD dL,rD dL,rD (dI .i64),rD (dI .i64),rD (dI .i64),rD (dI .i64),rD (dI .i64),rD (dI .i64),rD (dI .i64),rD (dI .i64),rD (dI .i64),rD (dI .i64),rD (dI .i64),rO 1,rD dNP,rD dB]]
def ky {β:Type}(g:List RV->β):Bool->ae->ae->Int->Int->Int->Int->Int->Int->Int->Int->Int->Int->Int->ae->Bool->β:=aaW.unc g
def aa7:PT (List RV):=pRs [pR false [rD dB],pR true [rD dL,rD dL,rD (dI .i64),rD (dI .i64),rD (dI .i64),rD (dI .i64),rD (dI .i64),rD (dI .i64),rD (dI .i64),rD (dI .i64),rD (dI .i64),rD (dI .i64),rD (dI .i64),rO 1,rD (dP [(dI .i64),(dI .i64)] 0),rD dB]]
def kU {β:Type}(g:List RV->β):Bool->ae->ae->Int->Int->Int->Int->Int->Int->Int->Int->Int->Int->Int->ae->Int->Int->Bool->β:=aa7.unc g
noncomputable abbrev alO:List bC:=⟨118,52,[⟨xO,Pf ee⟩]⟩::akZ
theorem aqJ:bF alO fun c=>bF c.l (al Pg c.f c.nt):=⟨⟨ad1,TT⟩,anr⟩
def anE:aE:=aE.ofIO alO bG io0
theorem asj:anE.Ok Pg:=aE.ofIO_ok aP aqJ
def ZQ:ah:=ah.sub [1,1,1,1,0,0] (emb mb)
def H4 (α:Type)(a b:Int)(k1:Bool->Op α):Op α:=
 cK (a == 5)
 (k1 true)
 (k1 (b == 0))
def sJ:bN:=sld H4
def Ms (v:bN)(α:Type)(K:KT α):Int->Int->ae->ae->Int->Int->Int->Int->Int->Int->Int->Int->Int->Int->Int->Bool->ae->I4 (Op α):=fun a b c d e g h i j l m o p q r s t w z A B=>v α a b (fun C=>rW (K .normal) a b C c d e g h i j l m o p q r s t w z A B)
theorem afV:∀ (α:Type) (K:KT α),Ms sJ α K=gk.unc fun σ=>aF Pg anE wJ ZQ K σ:=bR (fun α K=>by kernel_rfl)
abbrev Ju:Type 1:=(α:Type)->ae->Int->Int->Int->Int->Int->Int->Int->ae->Bool->Int->Int->Int->Int->Int->(ae->Bool->Op α)->(Int->Int->Op α)->Op α
def XW (α:Type)(j:ae)(l m o p q r s:Int)(a:ae)(t:Bool)(b c d e w:Int)(k1:ae->Bool->Op α)(k2:Int->Int->Op α):Op α:=
 ee α j l m o p q r s b c d e
 (fun z=>cK (z == 2)
 (gK (dv 1 8 a [[DC.v (.int .i64 0)]]) (k1 (a++[[DC.v (.int .i64 0)]]) t))
 (eG α b c
 (fun g=>eG α d e
 (fun h=>jj α
 (ee α j l m o p q r s g g h h
 (fun A=>cK (A == 0)
 (k2 g h)
 (iU α b c d e
 (fun i=>sJ α w i
 (fun B=>cK B
 (k1 a true)
 (gK (dv 1 8 a [[DC.v (.int .i64 i)]]) (jl α b c d e i
 (fun C D F G H=>none))))))))))))
def yk:Ju:=sld XW
def j3:PT (List DV):=pA [pV false [(dMr [dL,dL,(dI .i64),(dI .i64),(dI .i64),(dI .i64),(dI .i64),(dI .i64),(dI .i64),(dI .i64),(dI .i64),(dI .i64),(dI .i64),(dOs 1),dNP,dB] 0)],pV true [(dI .i64),(dI .i64),(dI .i64),(dI .i64)],vI]
def Xk (v:Ju)(α:Type)(k:RT α):ae->ae->Int->Int->Int->Int->Int->Int->Int->Int->Int->Int->Int->ae->Bool->I5 (Op α):=fun m a b c d e g o p q r h i s t w z A B C=>v α a b c d e g h i s t w z A B C (fun j l=>ky k true m a b c d e g o p q r h i j l) (fun j l=>kU k false m a b c d e g o p q r h i s j l t)
def aj8:ah:=(ah.put (.m [⟨gk,Ms sJ⟩]) [1,1,1,1,0] (emb mb))
theorem alo:al Pg 73 89 ⟨j3,Xk yk⟩:=iZ asj (ag Tryz.func73 (by kernel_rfl)) wJ aj8 ((aA _ _).trans (aG _)) (bc (by kernel_rfl) (aK mb) ⟨afV,TT⟩) fun _ _=>by kernel_rfl
noncomputable abbrev Iw:List bC:=⟨73,89,[⟨j3,Xk yk⟩]⟩::alO
theorem Jp:bF Iw fun c=>bF c.l (al Pg c.f c.nt):=⟨⟨alo,TT⟩,aqJ⟩
def apc:aE:=aE.ofIO Iw bG io0
theorem atG:apc.Ok Pg:=aE.ofIO_ok aP Jp
def X1:ah:=ah.sub [1,1,1,1,0,0] (emb mb)
def Gw (α:Type)(a b:Int)(k1:Bool->Op α):Op α:=
 cK (a == 5)
 (k1 true)
 (k1 (b == 0))
def qX:bN:=sld Gw
def Lu (v:bN)(α:Type)(K:KT α):Int->Int->ae->ae->Int->Int->Int->Int->Int->Int->Int->Int->Int->Int->Int->Bool->ae->I4 (Op α):=fun a b c d e g h i j l m o p q r s t w z A B=>v α a b (fun C=>rW (K .normal) a b C c d e g h i j l m o p q r s t w z A B)
theorem afJ:∀ (α:Type) (K:KT α),Lu qX α K=gk.unc fun σ=>aF Pg apc wJ X1 K σ:=bR (fun α K=>by kernel_rfl)
abbrev mO:Type 1:=(α:Type)->ae->Int->Int->Int->Int->Int->Int->Int->ae->Bool->Int->Int->Int->Int->Int->(ae->Bool->Op α)->(ae->Int->Int->Bool->Op α)->Op α
def aja (α:Type)(h:ae)(i j l m o p q:Int)(a:ae)(r:Bool)(b c d e s:Int)(k1:ae->Bool->Op α)(k2:ae->Int->Int->Bool->Op α):Op α:=
 ee α h i j l m o p q b c d e
 (fun B=>cK (B == 2)
 (gK (dv 1 8 a [[DC.v (.int .i64 0)]]) (k1 (a++[[DC.v (.int .i64 0)]]) r))
 (eG α b c
 (fun t=>eG α d e
 (fun w=>jj α
 (ee α h i j l m o p q t t w w
 (fun C=>cK (C == 0)
 (k2 a t w r)
 (iU α b c d e
 (fun g=>qX α s g
 (fun D=>cK D
 (k1 a true)
 (gK (dv 1 8 a [[DC.v (.int .i64 g)]]) (jl α b c d e g
 (fun F G H I Q=>yk α h i j l m o p q (a++[[DC.v (.int .i64 g)]]) r b F d G (w64 (s+1))
 (fun z A=>yk α h i j l m o p q z A H c I e (w64 (s+1))
 (fun J L=>k1 J L)
 (fun M N=>k2 z M N A))
 (fun O P=>k2 (a++[[DC.v (.int .i64 g)]]) O P r)))))))))))))
def Ar:mO:=sld aja
def UT (v:mO)(α:Type)(k:RT α):ae->ae->Int->Int->Int->Int->Int->Int->Int->Int->Int->Int->Int->ae->Bool->I5 (Op α):=fun m a b c d e g o p q r h i s t w z A B C=>v α a b c d e g h i s t w z A B C (fun j l=>ky k true m a b c d e g o p q r h i j l) (fun j l D F=>kU k false m a b c d e g o p q r h i j l D F)
def aiD:ah:=(ah.put (.m [⟨gk,Lu qX⟩]) [1,1,1,1,0] (emb mb))
theorem akt:al Pg 73 89 ⟨j3,UT Ar⟩:=iZ atG (ag Tryz.func73 (by kernel_rfl)) wJ aiD ((aA _ _).trans (aG _)) (bc (by kernel_rfl) (aK mb) ⟨afJ,TT⟩) fun _ _=>by kernel_rfl
def ah0:aE:=aE.ofIO (⟨73,89,[⟨j3,UT Ar⟩]⟩::Iw) bG io0
theorem ajt:ah0.Ok Pg:=aE.ofIO_ok aP ⟨⟨akt,TT⟩,Jp⟩
def SS:ah:=ah.sub [1,1,1,1,0,0] (emb mb)
def HS (α:Type)(a b:Int)(k1:Bool->Op α):Op α:=
 cK (a == 5)
 (k1 true)
 (k1 (b == 0))
def sd:bN:=sld HS
def Mp (v:bN)(α:Type)(K:KT α):Int->Int->ae->ae->Int->Int->Int->Int->Int->Int->Int->Int->Int->Int->Int->Bool->ae->I4 (Op α):=fun a b c d e g h i j l m o p q r s t w z A B=>v α a b (fun C=>rW (K .normal) a b C c d e g h i j l m o p q r s t w z A B)
theorem adk:∀ (α:Type) (K:KT α),Mp sd α K=gk.unc fun σ=>aF Pg ah0 wJ SS K σ:=bR (fun α K=>by kernel_rfl)
def alt (α:Type)(g:ae)(h i j l m o p:Int)(a:ae)(r:Bool)(b c d e s:Int)(k1:ae->Bool->Op α)(k2:ae->Int->Int->Bool->Op α):Op α:=
 ee α g h i j l m o p b c d e
 (fun z=>cK (z == 2)
 (gK (dv 1 8 a [[DC.v (.int .i64 0)]]) (k1 (a++[[DC.v (.int .i64 0)]]) r))
 (eG α b c
 (fun t=>eG α d e
 (fun w=>jj α
 (ee α g h i j l m o p t t w w
 (fun A=>cK (A == 0)
 (k2 a t w r)
 (iU α b c d e
 (fun q=>sd α s q
 (fun B=>cK B
 (k1 a true)
 (gK (dv 1 8 a [[DC.v (.int .i64 q)]]) (jl α b c d e q
 (fun C D F G V=>Ar α g h i j l m o p (a++[[DC.v (.int .i64 q)]]) r b C d D (w64 (s+1))
 (fun H I=>Ar α g h i j l m o p H I F c G e (w64 (s+1))
 (fun J L=>k1 J L)
 (fun M N O P=>k2 M N O P))
 (fun Q R T U=>k2 Q R T U)))))))))))))
def yZ:mO:=sld alt
def Tv (v:mO)(α:Type)(k:RT α):ae->ae->Int->Int->Int->Int->Int->Int->Int->Int->Int->Int->Int->ae->Bool->I5 (Op α):=fun m a b c d e g o p q r h i s t w z A B C=>v α a b c d e g h i s t w z A B C (fun j l=>ky k true m a b c d e g o p q r h i j l) (fun j l D F=>kU k false m a b c d e g o p q r h i j l D F)
def ajT:ah:=(ah.put (.m [⟨gk,Mp sd⟩]) [1,1,1,1,0] (emb mb))
theorem alr:al Pg 73 89 ⟨j3,Tv yZ⟩:=iZ ajt (ag Tryz.func73 (by kernel_rfl)) wJ ajT ((aA _ _).trans (aG _)) (bc (by kernel_rfl) (aK mb) ⟨adk,TT⟩) fun _ _=>by kernel_rfl
def ahV:aE:=aE.ofIO (⟨73,89,[⟨j3,Tv yZ⟩]⟩::Iw) bG io0
theorem aiv:ahV.Ok Pg:=aE.ofIO_ok aP ⟨⟨alr,TT⟩,Jp⟩
def Zl:ah:=ah.sub [1,1,1,1,0,0] (emb mb)
def G5 (α:Type)(a b:Int)(k1:Bool->Op α):Op α:=
 cK (a == 5)
 (k1 true)
 (k1 (b == 0))
def rR:bN:=sld G5
def Nn (v:bN)(α:Type)(K:KT α):Int->Int->ae->ae->Int->Int->Int->Int->Int->Int->Int->Int->Int->Int->Int->Bool->ae->I4 (Op α):=fun a b c d e g h i j l m o p q r s t w z A B=>v α a b (fun C=>rW (K .normal) a b C c d e g h i j l m o p q r s t w z A B)
theorem agO:∀ (α:Type) (K:KT α),Nn rR α K=gk.unc fun σ=>aF Pg ahV wJ Zl K σ:=bR (fun α K=>by kernel_rfl)
def akw (α:Type)(g:ae)(h i j l m o p:Int)(a:ae)(r:Bool)(b c d e s:Int)(k1:ae->Bool->Op α)(k2:ae->Int->Int->Bool->Op α):Op α:=
 ee α g h i j l m o p b c d e
 (fun z=>cK (z == 2)
 (gK (dv 1 8 a [[DC.v (.int .i64 0)]]) (k1 (a++[[DC.v (.int .i64 0)]]) r))
 (eG α b c
 (fun t=>eG α d e
 (fun w=>jj α
 (ee α g h i j l m o p t t w w
 (fun A=>cK (A == 0)
 (k2 a t w r)
 (iU α b c d e
 (fun q=>rR α s q
 (fun B=>cK B
 (k1 a true)
 (gK (dv 1 8 a [[DC.v (.int .i64 q)]]) (jl α b c d e q
 (fun C D F G V=>yZ α g h i j l m o p (a++[[DC.v (.int .i64 q)]]) r b C d D (w64 (s+1))
 (fun H I=>yZ α g h i j l m o p H I F c G e (w64 (s+1))
 (fun J L=>k1 J L)
 (fun M N O P=>k2 M N O P))
 (fun Q R T U=>k2 Q R T U)))))))))))))
def zl:mO:=sld akw
def XD (v:mO)(α:Type)(k:RT α):ae->ae->Int->Int->Int->Int->Int->Int->Int->Int->Int->Int->Int->ae->Bool->I5 (Op α):=fun m a b c d e g o p q r h i s t w z A B C=>v α a b c d e g h i s t w z A B C (fun j l=>ky k true m a b c d e g o p q r h i j l) (fun j l D F=>kU k false m a b c d e g o p q r h i j l D F)
def al6:ah:=(ah.put (.m [⟨gk,Nn rR⟩]) [1,1,1,1,0] (emb mb))
theorem aks:al Pg 73 89 ⟨j3,XD zl⟩:=iZ aiv (ag Tryz.func73 (by kernel_rfl)) wJ al6 ((aA _ _).trans (aG _)) (bc (by kernel_rfl) (aK mb) ⟨agO,TT⟩) fun _ _=>by kernel_rfl
def ahN:aE:=aE.ofIO (⟨73,89,[⟨j3,XD zl⟩]⟩::Iw) bG io0
theorem ake:ahN.Ok Pg:=aE.ofIO_ok aP ⟨⟨aks,TT⟩,Jp⟩
def Uk:ah:=ah.sub [1,1,1,1,0,0] (emb mb)
def Gf (α:Type)(a b:Int)(k1:Bool->Op α):Op α:=
 cK (a == 5)
 (k1 true)
 (k1 (b == 0))
def sj:bN:=sld Gf
def KX (v:bN)(α:Type)(K:KT α):Int->Int->ae->ae->Int->Int->Int->Int->Int->Int->Int->Int->Int->Int->Int->Bool->ae->I4 (Op α):=fun a b c d e g h i j l m o p q r s t w z A B=>v α a b (fun C=>rW (K .normal) a b C c d e g h i j l m o p q r s t w z A B)
theorem adU:∀ (α:Type) (K:KT α),KX sj α K=gk.unc fun σ=>aF Pg ahN wJ Uk K σ:=bR (fun α K=>by kernel_rfl)
def aka (α:Type)(g:ae)(h i j l m o p:Int)(a:ae)(r:Bool)(b c d e s:Int)(k1:ae->Bool->Op α)(k2:ae->Int->Int->Bool->Op α):Op α:=
 ee α g h i j l m o p b c d e
 (fun z=>cK (z == 2)
 (gK (dv 1 8 a [[DC.v (.int .i64 0)]]) (k1 (a++[[DC.v (.int .i64 0)]]) r))
 (eG α b c
 (fun t=>eG α d e
 (fun w=>jj α
 (ee α g h i j l m o p t t w w
 (fun A=>cK (A == 0)
 (k2 a t w r)
 (iU α b c d e
 (fun q=>sj α s q
 (fun B=>cK B
 (k1 a true)
 (gK (dv 1 8 a [[DC.v (.int .i64 q)]]) (jl α b c d e q
 (fun C D F G V=>zl α g h i j l m o p (a++[[DC.v (.int .i64 q)]]) r b C d D (w64 (s+1))
 (fun H I=>zl α g h i j l m o p H I F c G e (w64 (s+1))
 (fun J L=>k1 J L)
 (fun M N O P=>k2 M N O P))
 (fun Q R T U=>k2 Q R T U)))))))))))))
def rg:mO:=sld aka
def Z2 (v:mO)(α:Type)(k:RT α):ae->ae->Int->Int->Int->Int->Int->Int->Int->Int->Int->Int->Int->ae->Bool->I5 (Op α):=fun m a b c d e g o p q r h i s t w z A B C=>v α a b c d e g h i s t w z A B C (fun j l=>ky k true m a b c d e g o p q r h i j l) (fun j l D F=>kU k false m a b c d e g o p q r h i j l D F)
def aje:ah:=(ah.put (.m [⟨gk,KX sj⟩]) [1,1,1,1,0] (emb mb))
theorem aj2:al Pg 73 89 ⟨j3,Z2 rg⟩:=iZ ake (ag Tryz.func73 (by kernel_rfl)) wJ aje ((aA _ _).trans (aG _)) (bc (by kernel_rfl) (aK mb) ⟨adU,TT⟩) fun _ _=>by kernel_rfl
def EP:PT St:=pSv [(0,500000000,0)] [sl 0 (aV false [(gi 500000000 0)]),sI 2,sP 4,sI 8] [az 500000000 [(cD dL),(cD dL),xI,xI,xI,xI,xI,xI,xI,xI,xI,xI,xI,alA,(cD dNP),(cD dB)],az 4 (xs 4)]
def ary {β:Type}(g:St->β):Int->Int->ae->ae->Int->Int->Int->Int->Int->Int->Int->Int->Int->Int->Int->Bool->I4 β:=EP.unc g
def aeg:PT St:=pSv [(0,500000000,0)] [sl 0 (aV false [(gi 500000000 0)]),sI 2,sP 4,sI 8,sY 55 dB] [az 500000000 [(cD dL),(cD dL),xI,xI,xI,xI,xI,xI,xI,xI,xI,xI,xI,alA,(cD dNP),(cD dB)],az 4 (xs 4)]
def abO {β:Type}(g:St->β):Int->Int->Bool->ae->ae->Int->Int->Int->Int->Int->Int->Int->Int->Int->Int->Int->Bool->I4 β:=aeg.unc g
def Yy:PT (List RV):=pRs [pR false [rD dB],pR true [rD dL,rD dL,rD (dI .i64),rD (dI .i64),rD (dI .i64),rD (dI .i64),rD (dI .i64),rD (dI .i64),rD (dI .i64),rD (dI .i64),rD (dI .i64),rD (dI .i64),rD (dI .i64),rD dL,rD (dP [(dI .i64),(dI .i64)] 0),rD dB]]
def aab {β:Type}(g:List RV->β):Bool->ae->ae->Int->Int->Int->Int->Int->Int->Int->Int->Int->Int->Int->ae->Int->Int->Bool->β:=Yy.unc g
def aay:PT (List RV):=pRs [pR false [rD dB],pR true [rD dL,rD dL,rD (dI .i64),rD (dI .i64),rD (dI .i64),rD (dI .i64),rD (dI .i64),rD (dI .i64),rD (dI .i64),rD (dI .i64),rD (dI .i64),rD (dI .i64),rD (dI .i64),rD dL,rD dNP,rD dB]]
def VJ {β:Type}(g:List RV->β):Bool->ae->ae->Int->Int->Int->Int->Int->Int->Int->Int->Int->Int->Int->ae->Bool->β:=aay.unc g
def ag9:aE:=aE.ofIO (⟨73,89,[⟨j3,Z2 rg⟩]⟩::Iw) bG io0
theorem alY:ag9.Ok Pg:=aE.ofIO_ok aP ⟨⟨aj2,TT⟩,Jp⟩
def VH:ah:=ah.sub [1,1,1,1,0,0] (emb mb)
def Hj (α:Type)(a b:Int)(k1:Bool->Op α):Op α:=
 cK (a == 5)
 (k1 true)
 (k1 (b == 0))
def rk:bN:=sld Hj
def NL (v:bN)(α:Type)(K:KT α):Int->Int->ae->ae->Int->Int->Int->Int->Int->Int->Int->Int->Int->Int->Int->Bool->I4 (Op α):=fun a b c d e g h i j l m o p q r s t w z A=>v α a b (fun B=>abO (K .normal) a b B c d e g h i j l m o p q r s t w z A)
theorem ada:∀ (α:Type) (K:KT α),NL rk α K=EP.unc fun σ=>aF Pg ag9 wJ VH K σ:=bR (fun α K=>by kernel_rfl)
abbrev Ub:Type 1:=(α:Type)->ae->Int->Int->Int->Int->Int->Int->Int->Bool->Int->Int->Int->Int->Int->(ae->Bool->Op α)->(Int->Int->Op α)->(Op α)->(ae->Int->Int->Bool->Op α)->Op α
def aas (α:Type)(e:ae)(g h i j l m o:Int)(t:Bool)(a b c d p:Int)(k1:ae->Bool->Op α)(k2:Int->Int->Op α)(k3:Op α)(k4:ae->Int->Int->Bool->Op α):Op α:=
 ee α e g h i j l m o a b c d
 (fun w=>cK (w == 2)
 (k1 [[DC.v (.int .i64 0)]] t)
 (eG α a b
 (fun q=>eG α c d
 (fun r=>jj α
 (ee α e g h i j l m o q q r r
 (fun z=>cK (z == 0)
 (k2 q r)
 (iU α a b c d
 (fun s=>rk α p s
 (fun A=>cK A
 (k3)
 (jl α a b c d s
 (fun B C D F U=>rg α e g h i j l m o [[DC.v (.int .i64 s)]] t a B c C (w64 (p+1))
 (fun G H=>rg α e g h i j l m o G H D b F d (w64 (p+1))
 (fun I J=>k1 I J)
 (fun L M N O=>k4 L M N O))
 (fun P Q R T=>k4 P Q R T))))))))))))
def F6:Ub:=sld aas
def Yl:PT (List DV):=pA [pV false [(dMr [dL,dL,(dI .i64),(dI .i64),(dI .i64),(dI .i64),(dI .i64),(dI .i64),(dI .i64),(dI .i64),(dI .i64),(dI .i64),(dI .i64),dON,dNP,dB] 0)],pV true [(dI .i64),(dI .i64),(dI .i64),(dI .i64)],vI]
def aaG (v:Ub)(α:Type)(k:RT α):ae->ae->Int->Int->Int->Int->Int->Int->Int->Int->Int->Int->Int->Bool->I5 (Op α):=fun m a b c d e g o p q r h i s t w z A B=>v α a b c d e g h i s t w z A B (fun j l=>ky k true m a b c d e g o p q r h i j l) (fun j l=>aab k false m a b c d e g o p q r h i ([]:ae) j l s) (VJ k true m a b c d e g o p q r h i ([]:ae) true) (fun j l C D=>kU k false m a b c d e g o p q r h i j l C D)
def ajK:ah:=(ah.put (.m [⟨EP,NL rk⟩]) [1,1,1,1,0] (emb mb))
theorem aiU:al Pg 73 89 ⟨Yl,aaG F6⟩:=iZ alY (ag Tryz.func73 (by kernel_rfl)) wJ ajK ((aA _ _).trans (aG _)) (bc (by kernel_rfl) (aK mb) ⟨ada,TT⟩) fun _ _=>by kernel_rfl
def JC:SG:=[(11,[.sl]),(16,iS 9),(17,iS 9),(18,[.sl,.sl,.int .i64,.int .i64]),(19,iS 9),(24,iS 9),(39,iT),(46,iT),(51,[.bool]),(56,[.sl])]
def ar5:TG:=[tT 0 [1,4],tT 1 [1,4,5],tT 2 [1,4,5,6],tT 3 [1,4,5,6,11,12,13],tT 4 [1,4,5,6,11,12,13,14],tT 5 [1,4,5,6,7,8,11,12,13],tT 6 [1,4,5,6,7,8,9,11,12,13],tT 7 [1,4,5,6,7,9,11,12,13],tT 8 [1,4,5,6,7,9,11,12,13,31],(9,⟨[2,3,4],true,[],[3]⟩),tT 10 [1,4,5,6,9,11,12,13,51],tT 11 [1,4,5,6,9,11,12,13],tT 12 [1,4,5,6,11,12,13],tT 13 [1,4,5,6,11,12,13],tT 14 [4,5,6,61],tT 15 [4,5,6],(16,⟨[2,3,4],true,[],[3]⟩)]
def atC:TG:=[(4,⟨[1,4,5,6,11,12,13],true,[⟨false,5,0,20005,1⟩,⟨false,11,0,20011,9⟩,⟨true,1,0,30100,9⟩,⟨true,1,1,30101,5⟩,⟨true,22,0,32200,9⟩,⟨true,22,1,32201,5⟩,⟨true,22,13,32213,1⟩],[]⟩)]
def SB:au:=aB Pg Tryz.f30 ar5 atC
def sp:OT:=tdC (ah.sub [1,1,1,0,1,0] (emb SB))
def xq:PT St:=pS [sP 1,sP 4,sl 5 (aV false [(bL 20005)]),sI 6,sI 7,sP 8,sl 9 (aV false [(gi 22 0)]),sY 11 dL,sI 12,sI 13] [az 1 [(cD dL),(cD dL),xI,xI],az 4 (xs 3),bM 20005 1,az 8 (xs 9),az 22 [(cD dL),(cD dL),xI,xI,xI,xI,xI,xI,xI,xI,xI,xI,xI,alA,(cD dNP),(cD dB)]]
def arx {β:Type}(g:St->β):Int->Int->ae->Int->Int->ae->ae->Int->Int->Int->Int->Int->ae->Int->Int->Int->Int->Int->Int->Int->Int->Int->ae->ae->Int->Int->Int->Int->Int->Int->Int->Int->Int->Int->Int->Bool->β:=xq.unc g
def abx:PT St:=pS [sP 1,sP 4,sl 5 (aV false [(bL 20005)]),sI 6,sI 7,sl 9 (aV false [(gi 22 0)]),sY 11 dL,sI 12,sI 13] [az 1 [(cD dL),(cD dL),xI,xI],az 4 (xs 3),bM 20005 1,az 22 [(cD dL),(cD dL),xI,xI,xI,xI,xI,xI,xI,xI,xI,xI,xI,(bL 770026),(cD dNP),(cD dB)],bM 770026 1]
def acN {β:Type}(g:St->β):Int->Int->ae->Int->Int->ae->ae->Int->Int->Int->Int->Int->ae->ae->ae->Int->Int->Int->Int->Int->Int->Int->Int->Int->Int->Int->Bool->ae->β:=abx.unc g
def aeo:PT St:=pS [sP 1,sP 4,sl 5 (aV false [(bL 20005)]),sI 6,sI 7,sl 9 (aV false [(gi 22 0)]),sY 11 dL,sI 12,sI 13] [az 1 [(cD dL),(cD dL),xI,xI],az 4 (xs 3),bM 20005 1,az 22 [(cD dL),(cD dL),xI,xI,xI,xI,xI,xI,xI,xI,xI,xI,xI,(cD dL),(cD (dP [(dI .i64),(dI .i64)] 0)),(cD dB)]]
def ac3 {β:Type}(g:St->β):Int->Int->ae->Int->Int->ae->ae->Int->Int->Int->Int->Int->ae->ae->ae->Int->Int->Int->Int->Int->Int->Int->Int->Int->Int->Int->ae->Int->Int->Bool->β:=aeo.unc g
def adB:PT St:=pS [sP 1,sP 4,sl 5 (aV false [(bL 20005)]),sI 6,sI 7,sl 9 (aV false [(gi 22 0)]),sY 11 dL,sI 12,sI 13] [az 1 [(cD dL),(cD dL),xI,xI],az 4 (xs 3),bM 20005 1,az 22 [(cD dL),(cD dL),xI,xI,xI,xI,xI,xI,xI,xI,xI,xI,xI,(cD dL),(cD dNP),(cD dB)]]
def adp {β:Type}(g:St->β):Int->Int->ae->Int->Int->ae->ae->Int->Int->Int->Int->Int->ae->ae->ae->Int->Int->Int->Int->Int->Int->Int->Int->Int->Int->Int->ae->Bool->β:=adB.unc g
def abu:PT St:=pS [sP 1,sP 4,sl 5 (aV false [(bL 20005)]),sI 6,sI 7,sl 9 (aV false [(gi 22 0)]),sY 11 dL,sI 12,sI 13] [az 1 [(cD dL),(cD dL),xI,xI],az 4 (xs 3),bM 20005 1,az 22 [(cD dL),(cD dL),xI,xI,xI,xI,xI,xI,xI,xI,xI,xI,xI,(bL 770026),(cD (dP [(dI .i64),(dI .i64)] 0)),(cD dB)],bM 770026 1]
def acF {β:Type}(g:St->β):Int->Int->ae->Int->Int->ae->ae->Int->Int->Int->Int->Int->ae->ae->ae->Int->Int->Int->Int->Int->Int->Int->Int->Int->Int->Int->Int->Int->Bool->ae->β:=abu.unc g
def w7:PT St:=pS [sP 1,sP 4,sl 5 (aV false [(bL 20005)]),sI 6,sI 7,sl 9 (aV false [(gi 22 0)]),sY 11 dL,sI 12,sI 13,sY 31 dB] [az 1 [(cD dL),(cD dL),xI,xI],az 4 (xs 3),bM 20005 1,az 22 [(cD dL),(cD dL),xI,xI,xI,xI,xI,xI,xI,xI,xI,xI,xI,(bL 770026),(cD dNP),(cD dB)],bM 770026 1]
def arA {β:Type}(g:St->β):Int->Int->ae->Int->Int->Bool->ae->ae->Int->Int->Int->Int->Int->ae->ae->ae->Int->Int->Int->Int->Int->Int->Int->Int->Int->Int->Int->Bool->ae->β:=w7.unc g
def abs:PT St:=pS [sP 1,sP 4,sl 5 (aV false [(bL 20005)]),sI 6,sl 9 (aV false [(gi 22 0)]),sY 11 dL,sI 12,sI 13] [az 1 [(cD dL),(cD dL),xI,xI],az 4 (xs 3),bM 20005 1,az 22 [(cD dL),(cD dL),xI,xI,xI,xI,xI,xI,xI,xI,xI,xI,xI,(bL 770026),(cD dNP),(cD dB)],bM 770026 1]
def acy {β:Type}(g:St->β):Int->ae->Int->Int->ae->ae->Int->Int->Int->Int->Int->ae->ae->ae->Int->Int->Int->Int->Int->Int->Int->Int->Int->Int->Int->Bool->ae->β:=abs.unc g
def agT:PT St:=pS [sP 1,sP 4,sl 5 (aV false [(bL 20005)]),sI 6,sl 9 (aV false [(gi 22 0)]),sY 11 dL,sI 12,sI 13,sY 51 dB] [az 1 [(cD dL),(cD dL),xI,xI],az 4 (xs 3),bM 20005 1,az 22 [(cD dL),(cD dL),xI,xI,xI,xI,xI,xI,xI,xI,xI,xI,xI,(bL 770026),(cD dNP),(cD dB)],bM 770026 1]
def ab4 {β:Type}(g:St->β):Int->ae->Int->Int->Bool->ae->ae->Int->Int->Int->Int->Int->ae->ae->ae->Int->Int->Int->Int->Int->Int->Int->Int->Int->Int->Int->Bool->ae->β:=agT.unc g
def Eg:PT St:=pS [sP 1,sP 4,sl 5 (aV false [(bL 20005)]),sI 6,sY 11 dL,sI 12,sI 13] [az 1 [(cD dL),(cD dL),xI,xI],az 4 (xs 3),bM 20005 1]
def Fx {β:Type}(g:St->β):Int->ae->Int->Int->ae->ae->Int->Int->Int->Int->Int->ae->β:=Eg.unc g
def abP:PT St:=pS [sI 2,sY 3 dL,sP 4] [az 4 (xs 3)]
def xQ {β:Type}(g:St->β):Int->ae->Int->Int->Int->β:=abP.unc g
def TH:PT St:=pS [sP 1,sP 4,sl 5 (aV false [(bL 20005)]),sI 6,sY 11 dL,sI 12,sI 13,sY 14 dB] [az 1 [(cD dL),(cD dL),xI,xI],az 4 (xs 3),bM 20005 1]
def se {β:Type}(g:St->β):Int->ae->Int->Int->Bool->ae->ae->Int->Int->Int->Int->Int->ae->β:=TH.unc g
def WP:PT (List RV):=pRs [wI,pR false [rD dL],pR true [rD (dI .i64),rD (dI .i64),rD (dI .i64)]]
def S3 {β:Type}(g:List RV->β):Int->ae->Int->Int->Int->β:=WP.unc g
def yo:aE:=aE.ofIO (⟨73,89,[⟨Yl,aaG F6⟩]⟩::Iw) bG io0
theorem ajk:yo.Ok Pg:=aE.ofIO_ok aP ⟨⟨aiU,TT⟩,Jp⟩
def Vq:ah:=ah.sub [1,1,1,0,1,0,0,1,1,0,0,1,1,1,1,0] (emb SB)
def GA (α:Type)(a:Bool)(k1:Op α)(k2:Op α):Op α:=
 cK a
 (k1)
 (k2)
def lF:sk:=sld GA
def FG (v:sk)(α:Type)(K:KT α):Int->Int->ae->Int->Int->Bool->ae->ae->Int->Int->Int->Int->Int->ae->ae->ae->Int->Int->Int->Int->Int->Int->Int->Int->Int->Int->Int->Bool->ae->Op α:=fun I J b c d L e g h i j l m o p q r s t w z A B C D F G a H=>v α a (acy (K .normal) 1 b c d e g h i j l m o p q r s t w z A B C D F G a H) (ab4 (K .normal) I b c d a e g h i j l m o p q r s t w z A B C D F G a H)
theorem af0:∀ (α:Type) (K:KT α),FG lF α K=w7.unc fun σ=>aF Pg yo JC Vq K σ:=bR (fun α K=>by kernel_rfl)
def UC:ah:=ah.sub [1,1,1,0,1,0,0,1,1,0,0,1,1,0] (emb SB)
abbrev Gu:Type 1:=(α:Type)->Int->Int->Int->Int->ae->Int->Int->Int->Int->Int->Int->Int->Bool->(Bool->ae->Op α)->(Int->Int->Op α)->(Op α)->(Int->Int->Bool->ae->Op α)->Op α
def HC (α:Type)(a b c d:Int)(e:ae)(g h i j l m o:Int)(p:Bool)(k1:Bool->ae->Op α)(k2:Int->Int->Op α)(k3:Op α)(k4:Int->Int->Bool->ae->Op α):Op α:=
 wn α
 (F6 α e g h i j l m o p c d a b 0
 (fun q r=>k1 r q)
 (fun s t=>k2 s t)
 (k3)
 (fun w z A B=>k4 z A B w))
def tu:Gu:=sld HC
def Ef (v:Gu)(α:Type)(K:KT α):Int->Int->ae->Int->Int->ae->ae->Int->Int->Int->Int->Int->ae->Int->Int->Int->Int->Int->Int->Int->Int->Int->ae->ae->I11 (Bool->Op α):=fun m o p q r s t w z A B C D T U V M N O P W X F a b c d e g G H I J h i L=>v α M N O P a b c d e g h i L (fun j l=>acN (K .normal) m o p q r s t w z A B C D F a b c d e g G H I J h i j l) (fun j l=>ac3 (K .normal) m o p q r s t w z A B C D F a b c d e g G H I J h i ([]:ae) j l L) (adp (K .normal) m o p q r s t w z A B C D F a b c d e g G H I J h i ([]:ae) true) (fun j l Q R=>acF (K .normal) m o p q r s t w z A B C D F a b c d e g G H I J h i j l Q R)
theorem afq:∀ (α:Type) (K:KT α),Ef tu α K=xq.unc fun σ=>aF Pg yo JC UC K σ:=bR (fun α K=>by kernel_rfl)
def s8:ah:=ah.sub [1,1,1,0,1,0,0] (ah.put (.m [⟨xq,Ef tu⟩]) [1,1,1,0,1,0,0,1,1,0,0,1,1] (ah.put (.m [⟨w7,FG lF⟩]) [1,1,1,0,1,0,0,1,1,0,0,1,1,1,1] (emb SB)))
def rI (α:Type)(g:ae)(d:Int)(h:ae)(i j e a:Int)(b:ae)(kn:Int->Int->ae->Op α)(k1:Int->Int->Int->Op α)(k2:Int->Int->Bool->ae->Op α):Op α:=
 cK (decide (a < d))
 (gI g a [.int .i64,.int .i64,.int .i64,.int .i64,.int .i64,.int .i64,.int .i64,.int .i64,.int .i64]
 (fun l m o p q r s t w=>tu α p q r s h i j l m o t w false
 (fun z c=>lF α z
 (gK (dv 1 24 b [[DC.sl c]]) (kn 1 (w64 (a+1)) (b++[[DC.sl c]])))
 (gK (dv 1 24 b [[DC.sl c]]) (kn e (w64 (a+1)) (b++[[DC.sl c]]))))
 (fun A B=>k1 a A B)
 (gK (dv 1 24 b [[DC.sl ([]:ae)]]) (kn 1 (w64 (a+1)) (b++[[DC.sl ([]:ae)]])))
 (fun C D F G=>k1 a C D)))
 (k2 e a (decide (a < d)) b)
def lG (α:Type)(a:ae)(b:Int)(c:ae)(d e:Int)(k1:Int->Int->Int->Op α)(k2:Int->Int->Bool->ae->Op α):Nat->Int->Int->ae->Op α
 | 0,_,_,_=>none
 | n+1,g,h,i=>rI α a b c d e g h i (lG α a b c d e k1 k2 n) k1 k2
def zG (α:Type)(a:ae)(b:Int)(c:ae)(d e:Int)(k1:Int->Int->Int->Op α)(k2:Int->Int->Bool->ae->Op α)(g h:Int)(i:ae):Op α:=lG α a b c d e k1 k2 aN g h i
abbrev HN:Type 1:=(α:Type)->ae->Int->ae->Int->Int->(Int->Int->Int->Op α)->(Int->Int->Bool->ae->Op α)->Int->Int->ae->Op α
def sC:HN:=sld zG
def L1 (v:HN)(α:Type)(K:KT α):Int->ae->Int->Int->ae->ae->Int->Int->Int->Int->Int->ae->Op α:=fun j d e l m g h i o p q r=>v α d e g h i (fun a b c=>xQ (K .ret) 0 ([]:ae) a b c) (fun a b c s=>se (K (.exit 0)) a d e b c m g h i o p q s) j l r
theorem abW (α:Type)(K:KT α)(Kn:SK α)(a:Int)(b:ae)(c d:Int)(j e:ae)(g h l m o:Int)(i:ae):Fx (fun σ=>aF Pg yo JC s8 (cX (fun σ=>bW sp σ Kn) K) σ) a b c d j e g h l m o i=rI α b c e g h a d i (fun a d i=>Fx Kn a b c d j e g h l m o i) (fun p q r=>xQ (K .ret) 0 ([]:ae) p q r) (fun p q r s=>se (K (.exit 0)) p b c q r j e g h l m o s):=by kernel_rfl
theorem adj (α:Type)(K:KT α):∀ (n:Nat) (g:Int) (a:ae) (b h:Int) (o c:ae) (d e p q r:Int) (i:ae),lG α a b c d e (fun j l m=>xQ (K .ret) 0 ([]:ae) j l m) (fun j l m s=>se (K (.exit 0)) j a b l m o c d e p q r s) n g h i=Fx (aS (aF Pg yo JC s8) sp K n) g a b h o c d e p q r i:=by
 intro n
 induction n with
 | zero=>intros;rfl
 | succ n ih=>intro g a b h o c d e p q r i;exact (congrArg (fun kn=>rI α a b c d e g h i kn (fun j l m=>xQ (K .ret) 0 ([]:ae) j l m) (fun j l m s=>se (K (.exit 0)) j a b l m o c d e p q r s)) (funext fun g=>funext fun h=>funext fun i=>ih g a b h o c d e p q r i)).trans (abW α K (aS (aF Pg yo JC s8) sp K n) g a b h o c d e p q r i).symm
theorem afS:∀ (α:Type) (K:KT α),L1 sC α K=Eg.unc fun σ=>aS (aF Pg yo JC s8) sp K aN σ:=bR (fun α K=>funext fun a=>funext fun b=>funext fun c=>funext fun d=>funext fun e=>funext fun g=>funext fun h=>funext fun i=>funext fun j=>funext fun l=>funext fun m=>funext fun o=>adj α K aN a b c d e g h i j l m o)
abbrev Yw:Type 1:=(α:Type)->ae->ae->Int->Int->(Int->ae->Int->Int->Int->Op α)->Op α
def J7 (α:Type)(b c:ae)(d e:Int)(k1:Int->ae->Int->Int->Int->Op α):Op α:=
 sC α b ((List.length b:Nat):Int) c d e
 (fun g h i=>k1 0 ([]:ae) g h i)
 (fun a l m j=>cK (a != 2)
 (k1 a ([]:ae) 0 0 0)
 (k1 a j 0 0 0)) 2 0 ([]:ae)
def vF:Yw:=sld J7
def IZ (v:Yw)(α:Type)(k:RT α):ae->ae->Int->Int->Op α:=fun a b c d=>v α a b c d (fun e g h i j=>S3 k e g h i j)
def amc:ah:=(ah.put (.m [⟨Eg,L1 sC⟩]) [1,1,1,0,1,0] (ah.put (.m [⟨xq,Ef tu⟩]) [1,1,1,0,1,0,0,1,1,0,0,1,1] (ah.put (.m [⟨w7,FG lF⟩]) [1,1,1,0,1,0,0,1,1,0,0,1,1,1,1] (emb SB))))
theorem VU:al Pg 30 65 ⟨lq,IZ vF⟩:=iZ ajk (ag Tryz.func30 (by kernel_rfl)) JC amc ((aA _ _).trans ((aA _ _).trans ((aA _ _).trans (aG _)))) (bK (td:=sp) (by kernel_rfl) (bc (by kernel_rfl) (bc (by kernel_rfl) (aK SB) ⟨af0,TT⟩) ⟨afq,TT⟩) ⟨afS,TT⟩) fun _ _=>by kernel_rfl
def sh8:SG:=[(12,[.sl,.sl,.int .i64,.int .i64]),(21,[.sl,.sl,.int .i64,.int .i64]),(28,iS 3)]
def tr8:TG:=[tT 0 [1,4],tT 1 [1,4,7],tT 2 [1,4,7,17],(3,⟨[2,3,4,5],true,[],[3]⟩),tT 4 [4,8,9,10],tT 5 [2,3,4,5]]
def ac8:au:=aB Pg Tryz.f8 tr8 aR
def agy:PT (List RV):=pRs [wI,pR false [rD dL],pR true [rD (dI .i64),rD (dI .i64),rD (dI .i64)],wI]
def ad0 {β:Type}(g:List RV->β):Int->ae->I4 β:=agy.unc g
noncomputable abbrev ajI:List bC:=⟨30,65,[⟨lq,IZ vF⟩]⟩::Iw
theorem aqr:bF ajI fun c=>bF c.l (al Pg c.f c.nt):=⟨⟨VU,TT⟩,Jp⟩
def at3:aE:=aE.ofIO ajI bG io0
theorem atl:at3.Ok Pg:=aE.ofIO_ok aP aqr
abbrev ahH:Type 1:=(α:Type)->ae->ae->Int->Int->(Int->ae->I4 (Op α))->Op α
def ahd (α:Type)(a b:ae)(c d:Int)(k1:Int->ae->I4 (Op α)):Op α:=
 vu α a b c d
 (fun m e=>cK (e != 0)
 (k1 0 ([]:ae) 0 0 0 e)
 (vF α a b c d
 (fun g h i j l=>k1 g h i j l 0)))
def BI:ahH:=sld ahd
def ahe (v:ahH)(α:Type)(k:RT α):ae->ae->Int->Int->Op α:=fun a b c d=>v α a b c d (fun e g h i j l=>ad0 k e g h i j l)
theorem ard:al Pg 8 29 ⟨lq,ahe BI⟩:=iP atl ac8 (ag Tryz.func8 (by kernel_rfl)) sh8 fun _ _=>by kernel_rfl
def mF:SG:=[(15,[.sl,.sl,.int .i64,.int .i64,.int .i64]),(24,iT),(31,[.sl]),(36,[.sl,.sl,.int .i64,.int .i64,.int .i64]),(47,[.sl]),(49,[.bool]),(54,[.sl]),(55,iS 3),(58,[.bool]),(60,[.sl]),(61,[.sl])]
def asL:TG:=[(0,⟨[1,2,3],true,[⟨true,2,0,30200,1⟩,⟨true,2,1,30201,1⟩,⟨true,2,2,30202,3⟩],[]⟩),(1,⟨[1,2,3,5],true,[⟨true,2,0,30200,1⟩,⟨true,2,1,30201,1⟩,⟨true,2,2,30202,3⟩],[]⟩),(2,⟨[1,2,3,5,20],true,[⟨true,2,0,30200,1⟩,⟨true,2,1,30201,1⟩,⟨true,2,2,30202,3⟩],[]⟩),(3,⟨[2,3],true,[⟨true,2,0,30200,1⟩,⟨true,2,1,30201,1⟩,⟨true,2,2,30202,3⟩],[]⟩),(4,⟨[1,2,3,6],true,[⟨true,2,0,30200,1⟩,⟨true,2,1,30201,1⟩,⟨true,2,2,30202,3⟩],[]⟩),(5,⟨[1,2,3,6,25,26],true,[⟨true,2,0,30200,1⟩,⟨true,2,1,30201,1⟩,⟨true,2,2,30202,3⟩],[]⟩),(6,⟨[1,2,3,6,25,26,27],true,[⟨true,2,0,30200,1⟩,⟨true,2,1,30201,1⟩,⟨true,2,2,30202,3⟩],[]⟩),(7,⟨[1,2,3,6,7,25,26],true,[⟨true,2,0,30200,1⟩,⟨true,2,1,30201,1⟩,⟨true,2,2,30202,3⟩],[]⟩),(8,⟨[1,2,3,6,7,8,25,26],true,[⟨true,2,0,30200,1⟩,⟨true,2,1,30201,1⟩,⟨true,2,2,30202,3⟩],[]⟩),(9,⟨[1,2,3,6,7,8,9,25,26],true,[⟨true,2,0,30200,1⟩,⟨true,2,1,30201,1⟩,⟨true,2,2,30202,3⟩],[]⟩),(10,⟨[1,2,3,6,8,9,25,26,32,33],true,[⟨true,1,0,30100,9⟩,⟨true,1,1,30101,5⟩,⟨true,2,0,30200,1⟩,⟨true,2,1,30201,1⟩,⟨true,2,2,30202,3⟩,⟨true,6,0,30600,3⟩,⟨true,8,0,30800,3⟩],[]⟩),(11,⟨[1,2,3,6,8,9,10,25,26],true,[⟨true,2,0,30200,1⟩,⟨true,2,1,30201,1⟩,⟨true,2,2,30202,3⟩],[]⟩),(12,⟨[1,2,3,6,8,9,10,11,12,13,25,26],true,[⟨true,2,0,30200,1⟩,⟨true,2,1,30201,1⟩,⟨true,2,2,30202,3⟩],[]⟩),(13,⟨[1,2,3,6,8,9,10,11,12,13,25,26,44],true,[⟨true,2,0,30200,1⟩,⟨true,2,1,30201,1⟩,⟨true,2,2,30202,3⟩],[]⟩),(14,⟨[2,3],true,[⟨true,2,0,30200,1⟩,⟨true,2,1,30201,1⟩,⟨true,2,2,30202,3⟩],[]⟩),(15,⟨[1,2,3,6,8,9,13,25,26],true,[⟨true,2,0,30200,1⟩,⟨true,2,1,30201,1⟩,⟨true,2,2,30202,3⟩],[]⟩),(16,⟨[1,2,3,6,8,9,25,26],true,[⟨true,2,0,30200,1⟩,⟨true,2,1,30201,1⟩,⟨true,2,2,30202,3⟩],[]⟩),(17,⟨[1,2,3,6,8,25,26,58],true,[⟨true,2,0,30200,1⟩,⟨true,2,1,30201,1⟩,⟨true,2,2,30202,3⟩],[]⟩),(18,⟨[2,3],true,[⟨true,2,0,30200,1⟩,⟨true,2,1,30201,1⟩,⟨true,2,2,30202,3⟩],[]⟩),(19,⟨[1,2,3,6,25,26],true,[⟨true,2,0,30200,1⟩,⟨true,2,1,30201,1⟩,⟨true,2,2,30202,3⟩],[]⟩),(20,⟨[1,2,3,6,25,26],true,[⟨true,2,0,30200,1⟩,⟨true,2,1,30201,1⟩,⟨true,2,2,30202,3⟩],[]⟩),(21,⟨[2,3],true,[⟨true,2,0,30200,1⟩,⟨true,2,1,30201,1⟩,⟨true,2,2,30202,3⟩],[]⟩)]
def atO:TG:=[(6,⟨[1,2,3,6,25,26],true,[⟨true,1,0,30100,9⟩,⟨true,1,1,30101,5⟩,⟨true,2,0,30200,1⟩,⟨true,2,1,30201,1⟩,⟨true,2,2,30202,3⟩,⟨true,6,0,30600,3⟩,⟨true,8,0,30800,3⟩],[]⟩),(12,⟨[1,2,3,6,8,9,25,26,32,33],true,[⟨true,1,0,30100,9⟩,⟨true,1,1,30101,5⟩,⟨true,2,0,30200,1⟩,⟨true,2,1,30201,1⟩,⟨true,2,2,30202,3⟩,⟨true,6,0,30600,3⟩,⟨true,8,0,30800,3⟩],[]⟩)]
def Jh:au:=aB Pg Tryz.f15 asL atO
def re:OT:=tdC (ah.sub [1,1,1,0,1,0] (emb Jh))
def r8:OT:=tdC (ah.sub [1,1,1,0,1,0,0,1,1,0,0,1,1,1,0,1,0] (emb Jh))
def xo:PT St:=pS [sP 1,sP 2,sP 3,sP 6,sP 8,sP 9,sI 25,sI 26,sI 32,sl 33 (aV false [(cD (dFn 95 [(dP [(dI .i64)] 0),(dP [(dI .i64)] 0)]))])] [az 1 [(cD dL),(cD dL),xI,xI,xI],az 2 [(bL 30200),(bL 30201),(bL 30202)],bM 30200 1,bM 30201 1,bM 30202 3,az 3 [xI],az 6 [(bL 30600)],bM 30600 3,az 8 [(bL 30800)],bM 30800 3,az 9 [(cD dB)]]
def lO {β:Type}(g:St->β):Int->Int->Int->Int->Int->ae->ae->Int->Int->Int->ae->ae->ae->Int->ae->ae->Bool->β:=xo.unc g
def adh:PT St:=pS [sP 1,sP 2,sP 3,sP 6,sP 8,sP 9,sI 25,sI 26,sI 32,sl 33 (aV false [(cD (dFn 95 [(dP [(dI .i64)] 0),(dP [(dI .i64)] 0)]))])] [az 2 [(cD dL),(cD dL),(bL 30202)],bM 30202 3,az 3 [xI],az 1 [(cD dL),(cD dL),xI,xI,xI],az 6 [(bL 30202)],az 8 [(bL 30800)],bM 30800 3,az 9 [(cD dB)]]
def jQ {β:Type}(g:St->β):Int->Int->Int->Int->Int->ae->ae->ae->Int->ae->ae->Int->Int->Int->ae->Bool->β:=adh.unc g
def Em:PT St:=pS [sP 1,sP 2,sP 3,sP 6,sI 25,sI 26] [az 1 [(cD dL),(cD dL),xI,xI,xI],az 2 [(bL 30200),(bL 30201),(bL 30202)],bM 30200 1,bM 30201 1,bM 30202 3,az 3 [xI],az 6 [(bL 30600)],bM 30600 3]
def DL {β:Type}(g:St->β):Int->Int->ae->ae->Int->Int->Int->ae->ae->ae->Int->ae->β:=Em.unc g
def acw:PT St:=pS [sP 2,sP 3] [az 2 [(bL 30200),(bL 30201),(bL 30202)],bM 30200 1,bM 30201 1,bM 30202 3,az 3 [xI]]
def xe {β:Type}(g:St->β):ae->ae->ae->Int->β:=acw.unc g
def agJ:PT St:=pS [sP 1,sP 2,sP 3,sP 6,sI 25,sI 26,sY 27 dB] [az 1 [(cD dL),(cD dL),xI,xI,xI],az 2 [(bL 30200),(bL 30201),(bL 30202)],bM 30200 1,bM 30201 1,bM 30202 3,az 3 [xI],az 6 [(bL 30600)],bM 30600 3]
def wR {β:Type}(g:St->β):Int->Int->Bool->ae->ae->Int->Int->Int->ae->ae->ae->Int->ae->β:=agJ.unc g
def SQ:PT (List RV):=pRs [pR true [rO 1,rO 1,rO 3],wI]
def Ul {β:Type}(g:List RV->β):ae->ae->ae->Int->β:=SQ.unc g
def W5:PT (List RV):=pRs [pR true [rD dL,rD dL,rO 3],wI]
def Xd {β:Type}(g:List RV->β):ae->ae->ae->Int->β:=W5.unc g
def kY:aE:=aE.of [⟨45,58,[⟨mi,X6 IE⟩]⟩,⟨46,6,[⟨dr,WX OQ⟩]⟩,⟨47,31,[⟨Zn,XC IF⟩]⟩,⟨30,65,[⟨lq,IZ vF⟩]⟩] (aga [⟨95,Wm,q95⟩])
theorem akO:kY.Ok Pg:=aE.of_ok (P3 (l:=[⟨95,Wm,q95⟩]) ⟨alG,TT⟩) ⟨⟨aky,TT⟩,⟨aie,TT⟩,⟨akc,TT⟩,⟨VU,TT⟩,TT⟩
def o8:ah:=ah.sub [1,1,1,0,1,0,0,1,1,0,0,1,1,1,0,1,0,0] (emb Jh)
def rh:ah:=ah.sub [1,1,1,0,1,0,0,1,1,0,0,1,1,1,0,1,0,1] (emb Jh)
def wY (α:Type)(i j:ae)(l m:Int)(e:List Value)(a:ae)(g:Bool)(kn:ae->Bool->Op α)(k1:ae->Bool->Op α)(k2:ae->ae->ae->Bool->Op α):Op α:=
 IF α j (OS e)
 (fun o=>vF α i o l m
 (fun h p b c d=>cK (h == 2)
 (k2 (OS e) p a g)
 (cK g
 (gK (dv 3 24 a [[DC.v (.int .i64 b),DC.v (.int .i64 c),DC.v (.int .i64 d)]]) (kn (a++[[DC.v (.int .i64 b),DC.v (.int .i64 c),DC.v (.int .i64 d)]]) true))
 (gK (dv 3 24 a [[DC.v (.int .i64 b),DC.v (.int .i64 c),DC.v (.int .i64 d)]]) (kn (a++[[DC.v (.int .i64 b),DC.v (.int .i64 c),DC.v (.int .i64 d)]]) (h == 1))))))
def dU (α:Type)(c d:ae)(e g:Int)(k1:ae->Bool->Op α)(k2:ae->ae->ae->Bool->Op α):List (List Value)->ae->Bool->Op α
 | [],a,b=>k1 a b
 | h::ys,a,b=>wY α c d e g h a b (dU α c d e g k1 k2 ys) k1 k2
abbrev B1:Type 1:=(α:Type)->ae->ae->Int->Int->(ae->Bool->Op α)->(ae->ae->ae->Bool->Op α)->List (List Value)->ae->Bool->Op α
def nu:B1:=sld dU
def EC (v:B1)(α:Type)(K:KT α)(ys:List (List Value)):Int->Int->Int->Int->Int->ae->ae->Int->Int->Int->ae->ae->ae->Int->ae->ae->Bool->Op α:=fun h i j l m a b c d o q r s t p w z=>v α a b c d (fun e g=>lO (K .normal) h i j l m a b c d o q r s t p e g) (fun e g A B=>jQ (K .ret) h i j l m e g p 0 a b c d o A B) ys w z
theorem aeZ (α:Type)(K:KT α)(Kn:SK α)(A:List Value)(e g h i j:Int)(a b:ae)(c d l:Int)(q r s:ae)(t:Int)(m o:ae)(p:Bool):lO (fun σ=>ajB mF false (.tmp 33) (aF Pg kY mF o8) (aF Pg kY mF rh) [34] r8 Kn K (xLS.ex A) σ) e g h i j a b c d l q r s t m o p=wY α a b c d A o p (fun o p=>lO Kn e g h i j a b c d l q r s t m o p) (fun w z=>lO (K .normal) e g h i j a b c d l q r s t m w z) (fun w z B C=>jQ (K .ret) e g h i j w z m 0 a b c d l B C):=by kernel_rfl
theorem adr (α:Type)(K:KT α):∀ (ys:List (List Value)) (e g h i j:Int) (a b:ae) (c d l:Int) (s t w:ae) (z:Int) (m o:ae) (p:Bool),dU α a b c d (fun q r=>lO (K .normal) e g h i j a b c d l s t w z m q r) (fun q r A B=>jQ (K .ret) e g h i j q r m 0 a b c d l A B) ys o p=lO (cn mF false (.tmp 33) (aF Pg kY mF o8) (aF Pg kY mF rh) [34] r8 K (ys.map xLS.ex)) e g h i j a b c d l s t w z m o p:=by
 intro ys
 induction ys with
 | nil=>intros;rfl
 | cons C ys ih=>intro e g h i j a b c d l s t w z m o p;exact (congrArg (fun kn=>wY α a b c d C o p kn (fun q r=>lO (K .normal) e g h i j a b c d l s t w z m q r) (fun q r A B=>jQ (K .ret) e g h i j q r m 0 a b c d l A B)) (funext fun o=>funext fun p=>ih e g h i j a b c d l s t w z m o p)).trans (aeZ α K (cn mF false (.tmp 33) (aF Pg kY mF o8) (aF Pg kY mF rh) [34] r8 K (ys.map xLS.ex)) C e g h i j a b c d l s t w z m o p).symm
theorem abD:∀ (α:Type) (K:KT α) (ys:List (List Value)),EC nu α K ys=xo.unc fun σ=>cn mF false (.tmp 33) (aF Pg kY mF o8) (aF Pg kY mF rh) [34] r8 K (ys.map xLS.ex) σ:=ast (fun α K ys=>funext fun a=>funext fun b=>funext fun c=>funext fun d=>funext fun e=>funext fun g=>funext fun h=>funext fun i=>funext fun j=>funext fun l=>funext fun m=>funext fun o=>funext fun p=>funext fun q=>funext fun r=>funext fun s=>funext fun t=>adr α K ys a b c d e g h i j l m o p q r s t)
def tc:ah:=ah.sub [1,1,1,0,1,0,0] (ah.put (.r [⟨false,xLS,xo,EC nu⟩]) [1,1,1,0,1,0,0,1,1,0,0,1,1,1,0,1,0] (emb Jh))
def tG (α:Type)(d:Int)(g b:ae)(h i a:Int)(c:ae)(kn:Int->ae->Op α)(k1:Op α)(k2:Int->Int->Int->Int->ae->ae->ae->ae->Bool->Op α)(k3:Int->Bool->ae->Op α):Op α:=
 cK (decide (a < d))
 (OQ α
 (qK (q95 a ((List.length b:Nat):Int)) xLS fun j=>nu α g b h i
 (fun e l=>cK l
 (k1)
 (gK (dv 3 24 c e) (kn (w64 (a+1)) (c++e))))
 (fun m o p q=>k2 a ((List.length b:Nat):Int) a ((List.length b:Nat):Int) m o c p q) j ([]:ae) false))
 (k3 a (decide (a < d)) c)
def iA (α:Type)(a:Int)(b c:ae)(d e:Int)(k1:Op α)(k2:Int->Int->Int->Int->ae->ae->ae->ae->Bool->Op α)(k3:Int->Bool->ae->Op α):Nat->Int->ae->Op α
 | 0,_,_=>none
 | n+1,g,h=>tG α a b c d e g h (iA α a b c d e k1 k2 k3 n) k1 k2 k3
def HY (α:Type)(a:Int)(b c:ae)(d e:Int)(k1:Op α)(k2:Int->Int->Int->Int->ae->ae->ae->ae->Bool->Op α)(k3:Int->Bool->ae->Op α)(g:Int)(h:ae):Op α:=iA α a b c d e k1 k2 k3 aN g h
abbrev Hd:Type 1:=(α:Type)->Int->ae->ae->Int->Int->(Op α)->(Int->Int->Int->Int->ae->ae->ae->ae->Bool->Op α)->(Int->Bool->ae->Op α)->Int->ae->Op α
def sX:Hd:=sld HY
def PU (v:Hd)(α:Type)(K:KT α):Int->Int->ae->ae->Int->Int->Int->ae->ae->ae->Int->ae->Op α:=fun a l b c d e j m o p q r=>v α a b c d e (xe (K .ret) ([]:ae) ([]:ae) ([]:ae) 23) (fun g h i s t w z A B=>jQ (K .ret) a g h i s t w z 0 b c d e j A B) (fun g h i=>wR (K (.exit 0)) a g h b c d e j m o p q i) l r
theorem acp (α:Type)(K:KT α)(Kn:SK α)(a g:Int)(b c:ae)(d e h:Int)(j l m:ae)(o:Int)(i:ae):DL (fun σ=>aF Pg kY mF tc (cX (fun σ=>bW re σ Kn) K) σ) a g b c d e h j l m o i=tG α a b c d e g i (fun g i=>DL Kn a g b c d e h j l m o i) (xe (K .ret) ([]:ae) ([]:ae) ([]:ae) 23) (fun p q r s t w z A B=>jQ (K .ret) a p q r s t w z 0 b c d e h A B) (fun p q r=>wR (K (.exit 0)) a p q b c d e h j l m o r):=by kernel_rfl
theorem adE (α:Type)(K:KT α):∀ (n:Nat) (a h:Int) (b c:ae) (d e g:Int) (o p q:ae) (r:Int) (i:ae),iA α a b c d e (xe (K .ret) ([]:ae) ([]:ae) ([]:ae) 23) (fun j l m s t w z A B=>jQ (K .ret) a j l m s t w z 0 b c d e g A B) (fun j l m=>wR (K (.exit 0)) a j l b c d e g o p q r m) n h i=DL (aS (aF Pg kY mF tc) re K n) a h b c d e g o p q r i:=by
 intro n
 induction n with
 | zero=>intros;rfl
 | succ n ih=>intro a h b c d e g o p q r i;exact (congrArg (fun kn=>tG α a b c d e h i kn (xe (K .ret) ([]:ae) ([]:ae) ([]:ae) 23) (fun j l m s t w z A B=>jQ (K .ret) a j l m s t w z 0 b c d e g A B) (fun j l m=>wR (K (.exit 0)) a j l b c d e g o p q r m)) (funext fun h=>funext fun i=>ih a h b c d e g o p q r i)).trans (acp α K (aS (aF Pg kY mF tc) re K n) a h b c d e g o p q r i).symm
theorem aeL:∀ (α:Type) (K:KT α),PU sX α K=Em.unc fun σ=>aS (aF Pg kY mF tc) re K aN σ:=bR (fun α K=>funext fun a=>funext fun b=>funext fun c=>funext fun d=>funext fun e=>funext fun g=>funext fun h=>funext fun i=>funext fun j=>funext fun l=>funext fun m=>funext fun o=>adE α K aN a b c d e g h i j l m o)
abbrev Ey:Type 1:=(α:Type)->ae->ae->Int->Int->Int->(Int->Op α)->(ae->ae->ae->Op α)->Op α
def Tq (α:Type)(a b:ae)(c d e:Int)(k1:Int->Op α)(k2:ae->ae->ae->Op α):Op α:=
 IE α a b c d e
 (fun l g=>cK (g != 0)
 (k1 g)
 (sX α (w64 (e+1)) a b c d
 (k1 23)
 (fun m o p q h i j r s=>k2 h i j)
 (fun t w z=>k1 17) 0 ([]:ae)))
def BO:Ey:=sld Tq
def Ud (v:Ey)(α:Type)(k:RT α):ae->ae->Int->Int->Int->Op α:=fun b c d e g=>v α b c d e g (fun a=>Ul k ([]:ae) ([]:ae) ([]:ae) a) (fun a h i=>Xd k a h i 0)
def ajO:ah:=(ah.put (.m [⟨Em,PU sX⟩]) [1,1,1,0,1,0] (ah.put (.r [⟨false,xLS,xo,EC nu⟩]) [1,1,1,0,1,0,0,1,1,0,0,1,1,1,0,1,0] (emb Jh)))
theorem aiE:al Pg 15 65 ⟨mi,Ud BO⟩:=iZ akO (ag Tryz.func15 (by kernel_rfl)) mF ajO ((aA _ _).trans ((aA _ _).trans (aG _))) (bK (td:=re) (by kernel_rfl) (adC (td:=r8) (g:=(.tmp 33)) (ps:=[34]) (by kernel_rfl) (aK Jh) ⟨abD,TT⟩) ⟨aeL,TT⟩) fun _ _=>by kernel_rfl
end
end Go.AM.K
