/- Printed by KGen. -/
import Derived.Test.YtmcplmhohldpjaaGreatRc
namespace Go.AM.K
open Go.Proofs
set_option maxRecDepth 100000
set_option linter.unusedVariables false
noncomputable section
def amQ:SG:=[(5,iS 2),(12,iT),(14,iT)]
def aqE:TG:=[tT 0 [1,2],tT 1 [1,2,4],tT 2 [1,2,4,8],tT 3 [2,3],tT 4 [2,3]]
def aqK:au:=aB Pg Tryz.f164 aqE aR
noncomputable abbrev Lk7:List bC:=⟨197,54,[⟨dr,Qg zj⟩]⟩::⟨200,12,[⟨NO,Lh Ek⟩]⟩::⟨79,28,[⟨nN,Y7 Gj⟩]⟩::⟨36,31,[⟨nN,Vj Af⟩]⟩::⟨14,50,[⟨mi,aap Dv⟩]⟩::Lk6
theorem ak7:bF Lk7 fun c=>bF c.l (al Pg c.f c.nt):=⟨⟨abr,TT⟩,⟨afl,TT⟩,⟨aiS,TT⟩,⟨ajP,TT⟩,⟨akq,TT⟩,ak6⟩
def Ek7:aE:=aE.ofIO Lk7 bG io0
theorem ek7:Ek7.Ok Pg:=aE.ofIO_ok aP ak7
def LF (α:Type)(a b:Int)(k1:Nat->Nat->Int->Int->Op α):Op α:=
 uR α a b (-1099511627776)
 (fun c=>cK (c != 0)
 (k1 0 0 0 c)
 (zj α a b
 (fun d e g h=>k1 d e g h)))
def uT:fO:=sld LF
def LX (v:fO)(α:Type)(k:RT α):Int->Int->Op α:=fun a b=>v α a b (fun c d e g=>bv k c d e g)
theorem adM:al Pg 164 18 ⟨bD,LX uT⟩:=iP ek7 aqK (ag Tryz.func164 (by kernel_rfl)) amQ fun _ _=>by kernel_rfl
def BS:SG:=[(9,[.cpx .f64,.int .i64]),(19,iS 3),(27,iS 3)]
def an4:TG:=[tT 0 [1,2,4],tT 1 [1,4,6,7],tT 2 [1,4,6,7,14],tT 3 [4,5],tT 4 [4,6,7],tT 5 [4,6,7,24],tT 6 [4,5],tT 7 [4,5]]
def DD:au:=aB Pg Tryz.f137 an4 aR
abbrev xE:Type 1:=(α:Type)->Nat->Nat->Int->Int->(Nat->Nat->Int->Int->Op α)->Op α
def Kq (α:Type)(d e:Nat)(a g:Int)(k1:Nat->Nat->Int->Int->Op α):Op α:=
 gY α d e a
 (fun h i b=>cK (b != 0)
 (k1 0 0 0 b)
 (E0 α h i g
 (fun j l c=>cK (c != 0)
 (k1 0 0 0 c)
 (fT α j l a
 (fun m o p q=>k1 m o p q)))))
def Ex:xE:=sld Kq
def QH:PT (List DV):=pA [pV true [(dX .f64),(dI .i64)],pV false [(dFn 180 [(dP [(dI .i64)] 0)])]]
def OJ (v:xE)(α:Type)(k:RT α):Nat->Nat->Int->Int->Op α:=fun a b c d=>v α a b c d (fun e g h i=>bv k e g h i)
theorem adi:al Pg 137 31 ⟨QH,OJ Ex⟩:=iP ek7 DD (ag Tryz.func137 (by kernel_rfl)) BS fun _ _=>by kernel_rfl
abbrev jD:Type 1:=(α:Type)->Nat->Nat->Int->Int->Int->Int->(Nat->Nat->Int->Int->Op α)->Op α
def NE (α:Type)(c d:Nat)(a e g h:Int)(k1:Nat->Nat->Int->Int->Op α):Op α:=
 gY α c d a
 (fun i j b=>cK (b != 0)
 (k1 0 0 0 b)
 (Ek α i j a e g h
 (fun l m o=>fT α l m o
 (fun p q r s=>k1 p q r s))))
def FF:jD:=sld NE
def Lc:PT (List DV):=pA [pV true [(dX .f64),(dI .i64)],pV false [(dFn 200 [(dP [(dFn 167 [])] 0),(dP [(dI .i64),(dI .i64),(dI .i64)] 0)])]]
def MF (v:jD)(α:Type)(k:RT α):Nat->Nat->I4 (Op α):=fun a b c d e g=>v α a b c d e g (fun h i j l=>bv k h i j l)
theorem abG:al Pg 137 31 ⟨Lc,MF FF⟩:=iP ek7 DD (ag Tryz.func137 (by kernel_rfl)) BS fun _ _=>by kernel_rfl
def al9:aE:=aE.ofIO (⟨200,12,[⟨O1,MN D1⟩]⟩::Lk7) bG io0
theorem ab8:al9.Ok Pg:=aE.ofIO_ok aP ⟨⟨abj,TT⟩,ak7⟩
def PD (α:Type)(c d:Nat)(a e g h:Int)(k1:Nat->Nat->Int->Int->Op α):Op α:=
 gY α c d a
 (fun i j b=>cK (b != 0)
 (k1 0 0 0 b)
 (D1 α i j a e g h
 (fun l m o=>fT α l m o
 (fun p q r s=>k1 p q r s))))
def Es:jD:=sld PD
def PL:PT (List DV):=pA [pV true [(dX .f64),(dI .i64)],pV false [(dFn 200 [(dP [(dFn 169 [])] 0),(dP [(dI .i64),(dI .i64),(dI .i64)] 0)])]]
def Lt (v:jD)(α:Type)(k:RT α):Nat->Nat->I4 (Op α):=fun a b c d e g=>v α a b c d e g (fun h i j l=>bv k h i j l)
theorem aco:al Pg 137 31 ⟨PL,Lt Es⟩:=iP ab8 DD (ag Tryz.func137 (by kernel_rfl)) BS fun _ _=>by kernel_rfl
def als:aE:=aE.ofIO (⟨200,12,[⟨Ng,Pr FB⟩]⟩::Lk7) bG io0
theorem acD:als.Ok Pg:=aE.ofIO_ok aP ⟨⟨aca,TT⟩,ak7⟩
def KI (α:Type)(c d:Nat)(a e g h:Int)(k1:Nat->Nat->Int->Int->Op α):Op α:=
 gY α c d a
 (fun i j b=>cK (b != 0)
 (k1 0 0 0 b)
 (FB α i j a e g h
 (fun l m o=>fT α l m o
 (fun p q r s=>k1 p q r s))))
def EZ:jD:=sld KI
def KL:PT (List DV):=pA [pV true [(dX .f64),(dI .i64)],pV false [(dFn 200 [(dP [(dFn 177 [])] 0),(dP [(dI .i64),(dI .i64),(dI .i64)] 0)])]]
def Qk (v:jD)(α:Type)(k:RT α):Nat->Nat->I4 (Op α):=fun a b c d e g=>v α a b c d e g (fun h i j l=>bv k h i j l)
theorem aeI:al Pg 137 31 ⟨KL,Qk EZ⟩:=iP acD DD (ag Tryz.func137 (by kernel_rfl)) BS fun _ _=>by kernel_rfl
abbrev wK:Type 1:=(α:Type)->Nat->Nat->Int->(Nat->Nat->Int->Int->Op α)->Op α
def L3 (α:Type)(d e:Nat)(a:Int)(k1:Nat->Nat->Int->Int->Op α):Op α:=
 gY α d e a
 (fun g h b=>cK (b != 0)
 (k1 0 0 0 b)
 (qe α g h a
 (fun i j l c=>cK (c != 0)
 (k1 0 0 0 c)
 (fT α i j l
 (fun m o p q=>k1 m o p q)))))
def Ei:wK:=sld L3
def OC:PT (List DV):=pA [pV true [(dX .f64),(dI .i64)],pV false [(dFn 138 [])]]
def LK (v:wK)(α:Type)(k:RT α):Nat->Nat->Int->Op α:=fun a b c=>v α a b c (fun d e g h=>bv k d e g h)
theorem afW:al Pg 137 31 ⟨OC,LK Ei⟩:=iP ek7 DD (ag Tryz.func137 (by kernel_rfl)) BS fun _ _=>by kernel_rfl
def akd:aE:=aE.ofIO (⟨200,12,[⟨K9,N7 DP⟩]⟩::Lk7) bG io0
theorem ad5:akd.Ok Pg:=aE.ofIO_ok aP ⟨⟨adg,TT⟩,ak7⟩
def Oa (α:Type)(d e:Nat)(a g h i:Int)(k1:Nat->Nat->Int->Int->Op α):Op α:=
 gY α d e a
 (fun j l b=>cK (b != 0)
 (k1 0 0 0 b)
 (DP α j l a g h i
 (fun m o p c=>cK (c != 0)
 (k1 0 0 0 c)
 (fT α m o p
 (fun q r s t=>k1 q r s t)))))
def FW:jD:=sld Oa
def MA:PT (List DV):=pA [pV true [(dX .f64),(dI .i64)],pV false [(dFn 200 [(dP [(dFn 173 [])] 0),(dP [(dI .i64),(dI .i64),(dI .i64)] 0)])]]
def Ks (v:jD)(α:Type)(k:RT α):Nat->Nat->I4 (Op α):=fun a b c d e g=>v α a b c d e g (fun h i j l=>bv k h i j l)
theorem aeB:al Pg 137 31 ⟨MA,Ks FW⟩:=iP ad5 DD (ag Tryz.func137 (by kernel_rfl)) BS fun _ _=>by kernel_rfl
def as4:SG:=[(9,iT),(14,[.cpx .f64,.int .i64]),(20,iS 4)]
def arO:TG:=[tT 0 [0,3,4],tT 1 [0,3,4,10],tT 2 [0,4],tT 3 [0,3,4,5],tT 4 [0,4,5],tT 5 [0,4]]
def asw:au:=aB Pg Tryz.f33 arO aR
def aaY:PT (List RV):=pRs [pR true [rD (dI .i64),rD (dI .i64),rD (dI .i64),rD (dI .i64)],pR true [rD (dI .i64),rD (dI .i64),rD (dI .i64),rD (dI .i64),rD (dI .i64),rD (dI .i64),rD (dI .i64),rD dL,rD (dI .i64),rD (dI .i64)]]
def Hl {β:Type}(g:List RV->β):Int->Int->Int->Int->Int->Int->Int->Int->Int->Int->Int->ae->Int->Int->β:=aaY.unc g
abbrev UQ:Type 1:=(α:Type)->Int->Nat->Nat->Int->(I5 (Op α))->Op α
def U5 (α:Type)(a:Int)(b c:Nat)(d:Int)(k1:I5 (Op α)):Op α:=
 cK (a != 0)
 (k1 0 0 0 0 a)
 (Gj α b c d
 (fun e g h i j=>k1 e g h i j))
def wj:UQ:=sld U5
def Xt:PT (List DV):=pA [pV false [(dMr [(dI .i64),(dI .i64),(dI .i64),(dI .i64),(dI .i64),(dI .i64),(dI .i64),dL,(dI .i64),(dI .i64)] 0)],pV true [(dX .f64),(dI .i64)]]
def VP (v:UQ)(α:Type)(k:RT α):Int->Int->Int->Int->Int->Int->Int->ae->Int->Int->Nat->Nat->Int->Op α:=fun a b c d e g h i j l m o p=>v α a m o p (fun q r s t w=>Hl k q r s t w b c d e g h i j l)
theorem aj5:al Pg 33 21 ⟨Xt,VP wj⟩:=iP ek7 asw (ag Tryz.func33 (by kernel_rfl)) as4 fun _ _=>by kernel_rfl
def asJ:SG:=[(4,[.cpx .f64,.int .i64])]
def arQ:TG:=[tT 0 [1,2],tT 1 [2,3]]
def arY:au:=aB Pg Tryz.f84 arQ aR
noncomputable abbrev Lk8:List bC:=⟨137,31,[⟨OC,LK Ei⟩]⟩::⟨33,21,[⟨Xt,VP wj⟩]⟩::⟨164,18,[⟨bD,LX uT⟩]⟩::Lk7
theorem ak8:bF Lk8 fun c=>bF c.l (al Pg c.f c.nt):=⟨⟨afW,TT⟩,⟨aj5,TT⟩,⟨adM,TT⟩,ak7⟩
def Ek8:aE:=aE.ofIO Lk8 bG io0
theorem ek8:Ek8.Ok Pg:=aE.ofIO_ok aP ak8
def WL (α:Type)(a b:Nat)(c:Int)(k1:Nat->Nat->Int->Int->Op α):Op α:=
 Ei α a b c
 (fun d e g h=>k1 d e g h)
def DB:wK:=sld WL
def Xq (v:wK)(α:Type)(k:RT α):Nat->Nat->Int->Op α:=fun a b c=>v α a b c (fun d e g h=>bv k d e g h)
theorem alf:al Pg 84 8 ⟨nN,Xq DB⟩:=iP ek8 arY (ag Tryz.func84 (by kernel_rfl)) asJ fun _ _=>by kernel_rfl
def aqn:SG:=[(6,[.cpx .f64,.int .i64])]
def amv:TG:=[tT 0 [2,3,4],tT 1 [4,5]]
def aoB:au:=aB Pg Tryz.f135 amv aR
def akN:aE:=aE.ofIO (⟨137,31,[⟨QH,OJ Ex⟩]⟩::Lk8) bG io0
theorem adv:akN.Ok Pg:=aE.ofIO_ok aP ⟨⟨adi,TT⟩,ak8⟩
def M4 (α:Type)(a b:Nat)(c d:Int)(k1:Nat->Nat->Int->Int->Op α):Op α:=
 Ex α a b c d
 (fun e g h i=>k1 e g h i)
def qD:xE:=sld M4
def P4:PT (List DV):=pA [pV true [(dX .f64),(dI .i64)],vI]
def Ow (v:xE)(α:Type)(k:RT α):Nat->Nat->Int->Int->Op α:=fun a b c d=>v α a b c d (fun e g h i=>bv k e g h i)
theorem abN:al Pg 135 11 ⟨P4,Ow qD⟩:=iP adv aoB (ag Tryz.func135 (by kernel_rfl)) aqn fun _ _=>by kernel_rfl
def Lk:SG:=[(11,[.cpx .f64,.int .i64]),(19,[.cpx .f64,.int .i64])]
def apL:TG:=[tT 0 [3,4,5,6],tT 1 [4,5,6,8,9],tT 2 [4,5,6,8,9,16],tT 3 [6,7],tT 4 [6,7]]
def MP:au:=aB Pg Tryz.f166 apL aR
def ajL:aE:=aE.ofIO (⟨137,31,[⟨Lc,MF FF⟩]⟩::Lk8) bG io0
theorem abR:ajL.Ok Pg:=aE.ofIO_ok aP ⟨⟨abG,TT⟩,ak8⟩
abbrev dM:Type 1:=(α:Type)->Nat->Nat->Int->Nat->Nat->Int->(Nat->Nat->Int->Int->Op α)->Op α
def M7 (α:Type)(c d:Nat)(a:Int)(e g:Nat)(h:Int)(k1:Nat->Nat->Int->Int->Op α):Op α:=
 gY α c d a
 (fun i j b=>cK (b != 0)
 (k1 0 0 0 b)
 (FF α e g h i j a
 (fun l m o p=>k1 l m o p)))
def D6:dM:=sld M7
def NG:PT (List DV):=pA [pV true [(dX .f64),(dI .i64)],pV true [(dX .f64),(dI .i64)],pV false [(dFn 167 [])]]
def QA (v:dM)(α:Type)(k:RT α):Nat->Nat->Int->Nat->Nat->Int->Op α:=fun a b c d e g=>v α a b c d e g (fun h i j l=>bv k h i j l)
theorem agU:al Pg 166 24 ⟨NG,QA D6⟩:=iP abR MP (ag Tryz.func166 (by kernel_rfl)) Lk fun _ _=>by kernel_rfl
def amb:aE:=aE.ofIO (⟨137,31,[⟨PL,Lt Es⟩]⟩::Lk8) bG io0
theorem ac2:amb.Ok Pg:=aE.ofIO_ok aP ⟨⟨aco,TT⟩,ak8⟩
def NT (α:Type)(c d:Nat)(a:Int)(e g:Nat)(h:Int)(k1:Nat->Nat->Int->Int->Op α):Op α:=
 gY α c d a
 (fun i j b=>cK (b != 0)
 (k1 0 0 0 b)
 (Es α e g h i j a
 (fun l m o p=>k1 l m o p)))
def D0:dM:=sld NT
def MQ:PT (List DV):=pA [pV true [(dX .f64),(dI .i64)],pV true [(dX .f64),(dI .i64)],pV false [(dFn 169 [])]]
def LW (v:dM)(α:Type)(k:RT α):Nat->Nat->Int->Nat->Nat->Int->Op α:=fun a b c d e g=>v α a b c d e g (fun h i j l=>bv k h i j l)
theorem acC:al Pg 166 24 ⟨MQ,LW D0⟩:=iP ac2 MP (ag Tryz.func166 (by kernel_rfl)) Lk fun _ _=>by kernel_rfl
def aln:aE:=aE.ofIO (⟨137,31,[⟨KL,Qk EZ⟩]⟩::Lk8) bG io0
theorem acX:aln.Ok Pg:=aE.ofIO_ok aP ⟨⟨aeI,TT⟩,ak8⟩
def OE (α:Type)(c d:Nat)(a:Int)(e g:Nat)(h:Int)(k1:Nat->Nat->Int->Int->Op α):Op α:=
 gY α c d a
 (fun i j b=>cK (b != 0)
 (k1 0 0 0 b)
 (EZ α e g h i j a
 (fun l m o p=>k1 l m o p)))
def Fg:dM:=sld OE
def Ol:PT (List DV):=pA [pV true [(dX .f64),(dI .i64)],pV true [(dX .f64),(dI .i64)],pV false [(dFn 177 [])]]
def Qi (v:dM)(α:Type)(k:RT α):Nat->Nat->Int->Nat->Nat->Int->Op α:=fun a b c d e g=>v α a b c d e g (fun h i j l=>bv k h i j l)
theorem adV:al Pg 166 24 ⟨Ol,Qi Fg⟩:=iP acX MP (ag Tryz.func166 (by kernel_rfl)) Lk fun _ _=>by kernel_rfl
def alb:aE:=aE.ofIO (⟨137,31,[⟨MA,Ks FW⟩]⟩::Lk8) bG io0
theorem agz:alb.Ok Pg:=aE.ofIO_ok aP ⟨⟨aeB,TT⟩,ak8⟩
def Oe (α:Type)(c d:Nat)(a:Int)(e g:Nat)(h:Int)(k1:Nat->Nat->Int->Int->Op α):Op α:=
 gY α c d a
 (fun i j b=>cK (b != 0)
 (k1 0 0 0 b)
 (FW α e g h i j a
 (fun l m o p=>k1 l m o p)))
def Fq:dM:=sld Oe
def L9:PT (List DV):=pA [pV true [(dX .f64),(dI .i64)],pV true [(dX .f64),(dI .i64)],pV false [(dFn 173 [])]]
def L4 (v:dM)(α:Type)(k:RT α):Nat->Nat->Int->Nat->Nat->Int->Op α:=fun a b c d e g=>v α a b c d e g (fun h i j l=>bv k h i j l)
theorem aeu:al Pg 166 24 ⟨L9,L4 Fq⟩:=iP agz MP (ag Tryz.func166 (by kernel_rfl)) Lk fun _ _=>by kernel_rfl
def aoU:SG:=[(9,iS 2),(19,iT),(22,iT),(26,iT),(35,iT),(39,iT),(42,iT),(52,[.cpx .f64,.int .i64])]
def arK:TG:=[tT 0 [1,2],tT 1 [1,2,5],tT 2 [1,2,5,14],tT 3 [2,3],tT 4 [1,2,17],tT 5 [2,3],tT 6 [1,2,33],tT 7 [2,6,7],tT 8 [2,6,7,49],tT 9 [2,3],tT 10 [2,3],tT 11 [2,3]]
def aoJ:au:=aB Pg Tryz.f85 arK aR
def Wa (α:Type)(a b:Int)(k1:Nat->Nat->Int->Int->Op α):Op α:=
 lT α a b
 (fun l m o c=>cK (c != 0)
 (k1 0 0 0 c)
 (cK (decide (0<=a))
 (eF α (w64 (a*1048576))
 (fun d=>m6 α (w64 (b*1048576))
 (fun e=>lT α d e
 (fun g h i j=>k1 g h i j))))
 (cK (decide (b<=0))
 (none)
 (k1 0 0 0 14))))
def Gl:fO:=sld Wa
def YP (v:fO)(α:Type)(k:RT α):Int->Int->Op α:=fun a b=>v α a b (fun c d e g=>bv k c d e g)
theorem aiz:al Pg 85 57 ⟨bD,YP Gl⟩:=iP ek8 aoJ (ag Tryz.func85 (by kernel_rfl)) aoU fun _ _=>by kernel_rfl
noncomputable abbrev Lk9:List bC:=⟨85,57,[⟨bD,YP Gl⟩]⟩::⟨135,11,[⟨P4,Ow qD⟩]⟩::⟨166,24,[⟨Ol,Qi Fg⟩]⟩::⟨84,8,[⟨nN,Xq DB⟩]⟩::Lk8
theorem ak9:bF Lk9 fun c=>bF c.l (al Pg c.f c.nt):=⟨⟨aiz,TT⟩,⟨abN,TT⟩,⟨adV,TT⟩,⟨alf,TT⟩,ak8⟩
def Ek9:aE:=aE.ofIO Lk9 bG io0
theorem ek9:Ek9.Ok Pg:=aE.ofIO_ok aP ak9
def Y8 (α:Type)(a b:Int)(k1:Nat->Nat->Int->Int->Op α):Op α:=
 lT α a b
 (fun w z A c=>cK (c != 0)
 (k1 0 0 0 c)
 (cK (decide (0<=a))
 (eF α (w64 (a*1048576))
 (fun e=>m6 α (w64 (b*1048576))
 (fun g=>lT α e g
 (fun h i j l=>k1 h i j l))))
 (cK (decide (b<=0))
 (Gl α (w64 (0 - b)) (w64 (0 - a))
 (fun m o p d=>cK (d != 0)
 (k1 0 0 0 d)
 (qD α m o p 1
 (fun q r s t=>k1 q r s t))))
 (k1 0 0 0 14))))
def B5:fO:=sld Y8
def aax (v:fO)(α:Type)(k:RT α):Int->Int->Op α:=fun a b=>v α a b (fun c d e g=>bv k c d e g)
theorem ais:al Pg 85 57 ⟨bD,aax B5⟩:=iP ek9 aoJ (ag Tryz.func85 (by kernel_rfl)) aoU fun _ _=>by kernel_rfl
def LY:SG:=[(6,[.cpx .f64,.int .i64]),(7,[.cpx .f64,.int .i64])]
def aoO:TG:=[tT 0 [2,3,4],tT 1 [4,5]]
def aqL:au:=aB Pg Tryz.f132 aoO aR
def KG (α:Type)(a b:Nat)(c:Int)(d e:Nat)(g:Int)(k1:Nat->Nat->Int->Int->Op α):Op α:=
 Fg α a b c d e g
 (fun h i j l=>k1 h i j l)
def Ao:dM:=sld KG
def jR:PT (List DV):=pA [pV true [(dX .f64),(dI .i64)],pV true [(dX .f64),(dI .i64)]]
def M2 (v:dM)(α:Type)(k:RT α):Nat->Nat->Int->Nat->Nat->Int->Op α:=fun a b c d e g=>v α a b c d e g (fun h i j l=>bv k h i j l)
theorem abA:al Pg 132 11 ⟨jR,M2 Ao⟩:=iP ek9 aqL (ag Tryz.func132 (by kernel_rfl)) LY fun _ _=>by kernel_rfl
def amh:TG:=[tT 0 [2,3,4],tT 1 [4,5]]
def amP:au:=aB Pg Tryz.f130 amh aR
def ajp:aE:=aE.ofIO (⟨166,24,[⟨MQ,LW D0⟩]⟩::Lk9) bG io0
theorem ad9:ajp.Ok Pg:=aE.ofIO_ok aP ⟨⟨acC,TT⟩,ak9⟩
def PZ (α:Type)(a b:Nat)(c:Int)(d e:Nat)(g:Int)(k1:Nat->Nat->Int->Int->Op α):Op α:=
 D0 α a b c d e g
 (fun h i j l=>k1 h i j l)
def ue:dM:=sld PZ
def Nf (v:dM)(α:Type)(k:RT α):Nat->Nat->Int->Nat->Nat->Int->Op α:=fun a b c d e g=>v α a b c d e g (fun h i j l=>bv k h i j l)
theorem agL:al Pg 130 11 ⟨jR,Nf ue⟩:=iP ad9 amP (ag Tryz.func130 (by kernel_rfl)) LY fun _ _=>by kernel_rfl
def amn:TG:=[tT 0 [2,3,4],tT 1 [4,5]]
def apm:au:=aB Pg Tryz.f129 amn aR
def alB:aE:=aE.ofIO (⟨166,24,[⟨NG,QA D6⟩]⟩::Lk9) bG io0
theorem afv:alB.Ok Pg:=aE.ofIO_ok aP ⟨⟨agU,TT⟩,ak9⟩
def OR (α:Type)(a b:Nat)(c:Int)(d e:Nat)(g:Int)(k1:Nat->Nat->Int->Int->Op α):Op α:=
 D6 α a b c d e g
 (fun h i j l=>k1 h i j l)
def zP:dM:=sld OR
def Mj (v:dM)(α:Type)(k:RT α):Nat->Nat->Int->Nat->Nat->Int->Op α:=fun a b c d e g=>v α a b c d e g (fun h i j l=>bv k h i j l)
theorem agn:al Pg 129 11 ⟨jR,Mj zP⟩:=iP afv apm (ag Tryz.func129 (by kernel_rfl)) LY fun _ _=>by kernel_rfl
def anw:TG:=[tT 0 [2,3,4],tT 1 [4,5]]
def aoE:au:=aB Pg Tryz.f131 anw aR
def alT:aE:=aE.ofIO (⟨166,24,[⟨L9,L4 Fq⟩]⟩::Lk9) bG io0
theorem agl:alT.Ok Pg:=aE.ofIO_ok aP ⟨⟨aeu,TT⟩,ak9⟩
def OD (α:Type)(a b:Nat)(c:Int)(d e:Nat)(g:Int)(k1:Nat->Nat->Int->Int->Op α):Op α:=
 Fq α a b c d e g
 (fun h i j l=>k1 h i j l)
def zF:dM:=sld OD
def K0 (v:dM)(α:Type)(k:RT α):Nat->Nat->Int->Nat->Nat->Int->Op α:=fun a b c d e g=>v α a b c d e g (fun h i j l=>bv k h i j l)
theorem abX:al Pg 131 11 ⟨jR,K0 zF⟩:=iP agl aoE (ag Tryz.func131 (by kernel_rfl)) LY fun _ _=>by kernel_rfl
def PX:SG:=[(12,iT),(17,[.cpx .f64,.int .i64]),(18,[.cpx .f64,.int .i64])]
def an9:TG:=[tT 0 [0,1,6,7,8],tT 1 [0,1,6,7,8,13],tT 2 [0,8],tT 3 [0,8]]
def Qt:au:=aB Pg Tryz.f128 an9 aR
noncomputable abbrev aiV:List bC:=⟨129,11,[⟨jR,Mj zP⟩]⟩::⟨130,11,[⟨jR,Nf ue⟩]⟩::⟨132,11,[⟨jR,M2 Ao⟩]⟩::⟨131,11,[⟨jR,K0 zF⟩]⟩::Lk9
theorem amI:bF aiV fun c=>bF c.l (al Pg c.f c.nt):=⟨⟨agn,TT⟩,⟨agL,TT⟩,⟨abA,TT⟩,⟨abX,TT⟩,ak9⟩
def arH:aE:=aE.ofIO aiV bG io0
theorem afs:arH.Ok Pg:=aE.ofIO_ok aP amI
abbrev dO:Type 1:=(α:Type)->Int->Nat->Nat->Int->Nat->Nat->Int->(Nat->Nat->Int->Int->Op α)->Op α
def NB (α:Type)(a:Int)(b c:Nat)(d:Int)(e g:Nat)(h:Int)(k1:Nat->Nat->Int->Int->Op α):Op α:=
 cK (a != 0)
 (k1 0 0 0 a)
 (zP α b c d e g h
 (fun i j l m=>fE α
 (k1 i j l m)))
def FH:dO:=sld NB
def N8:PT (List DV):=pA [pV false [(dMr [(dI .i64),(dI .i64),(dI .i64),(dI .i64),(dI .i64),(dI .i64),(dI .i64),dL,(dI .i64),(dI .i64)] 0)],pV false [(dFn 129 [])],pV true [(dX .f64),(dI .i64)],pV true [(dX .f64),(dI .i64)]]
def KR (v:dO)(α:Type)(k:RT α):Int->Int->Int->Int->Int->Int->Int->ae->Int->Int->Nat->Nat->Int->Nat->Nat->Int->Op α:=fun a b c d e g h i j l m o p q r s=>v α a m o p q r s (fun t w z A=>dj k t w z A b c d e g h i j l)
theorem agA:al Pg 128 23 ⟨N8,KR FH⟩:=iP afs Qt (ag Tryz.func128 (by kernel_rfl)) PX fun _ _=>by kernel_rfl
def N5 (α:Type)(a:Int)(b c:Nat)(d:Int)(e g:Nat)(h:Int)(k1:Nat->Nat->Int->Int->Op α):Op α:=
 cK (a != 0)
 (k1 0 0 0 a)
 (ue α b c d e g h
 (fun i j l m=>fE α
 (k1 i j l m)))
def FJ:dO:=sld N5
def K4:PT (List DV):=pA [pV false [(dMr [(dI .i64),(dI .i64),(dI .i64),(dI .i64),(dI .i64),(dI .i64),(dI .i64),dL,(dI .i64),(dI .i64)] 0)],pV false [(dFn 130 [])],pV true [(dX .f64),(dI .i64)],pV true [(dX .f64),(dI .i64)]]
def Pq (v:dO)(α:Type)(k:RT α):Int->Int->Int->Int->Int->Int->Int->ae->Int->Int->Nat->Nat->Int->Nat->Nat->Int->Op α:=fun a b c d e g h i j l m o p q r s=>v α a m o p q r s (fun t w z A=>dj k t w z A b c d e g h i j l)
theorem agv:al Pg 128 23 ⟨K4,Pq FJ⟩:=iP afs Qt (ag Tryz.func128 (by kernel_rfl)) PX fun _ _=>by kernel_rfl
def NZ (α:Type)(a:Int)(b c:Nat)(d:Int)(e g:Nat)(h:Int)(k1:Nat->Nat->Int->Int->Op α):Op α:=
 cK (a != 0)
 (k1 0 0 0 a)
 (Ao α b c d e g h
 (fun i j l m=>fE α
 (k1 i j l m)))
def Fp:dO:=sld NZ
def Oo:PT (List DV):=pA [pV false [(dMr [(dI .i64),(dI .i64),(dI .i64),(dI .i64),(dI .i64),(dI .i64),(dI .i64),dL,(dI .i64),(dI .i64)] 0)],pV false [(dFn 132 [])],pV true [(dX .f64),(dI .i64)],pV true [(dX .f64),(dI .i64)]]
def QI (v:dO)(α:Type)(k:RT α):Int->Int->Int->Int->Int->Int->Int->ae->Int->Int->Nat->Nat->Int->Nat->Nat->Int->Op α:=fun a b c d e g h i j l m o p q r s=>v α a m o p q r s (fun t w z A=>dj k t w z A b c d e g h i j l)
theorem afM:al Pg 128 23 ⟨Oo,QI Fp⟩:=iP afs Qt (ag Tryz.func128 (by kernel_rfl)) PX fun _ _=>by kernel_rfl
def Qf (α:Type)(a:Int)(b c:Nat)(d:Int)(e g:Nat)(h:Int)(k1:Nat->Nat->Int->Int->Op α):Op α:=
 cK (a != 0)
 (k1 0 0 0 a)
 (zF α b c d e g h
 (fun i j l m=>fE α
 (k1 i j l m)))
def DS:dO:=sld Qf
def QD:PT (List DV):=pA [pV false [(dMr [(dI .i64),(dI .i64),(dI .i64),(dI .i64),(dI .i64),(dI .i64),(dI .i64),dL,(dI .i64),(dI .i64)] 0)],pV false [(dFn 131 [])],pV true [(dX .f64),(dI .i64)],pV true [(dX .f64),(dI .i64)]]
def Kj (v:dO)(α:Type)(k:RT α):Int->Int->Int->Int->Int->Int->Int->ae->Int->Int->Nat->Nat->Int->Nat->Nat->Int->Op α:=fun a b c d e g h i j l m o p q r s=>v α a m o p q r s (fun t w z A=>dj k t w z A b c d e g h i j l)
theorem afH:al Pg 128 23 ⟨QD,Kj DS⟩:=iP afs Qt (ag Tryz.func128 (by kernel_rfl)) PX fun _ _=>by kernel_rfl
def adc:SG:=[(8,[.cpx .f64,.int .i64]),(9,[.cpx .f64,.int .i64])]
def ats:TG:=[tT 0 [0,4,5,6],tT 1 [0,6]]
def as3:au:=aB Pg Tryz.f78 ats aR
noncomputable abbrev TE:List bC:=⟨128,23,[⟨Oo,QI Fp⟩]⟩::aiV
theorem acW:bF TE fun c=>bF c.l (al Pg c.f c.nt):=⟨⟨afM,TT⟩,amI⟩
def atN:aE:=aE.ofIO TE bG io0
theorem arD:atN.Ok Pg:=aE.ofIO_ok aP acW
def YX (α:Type)(a:Int)(b c:Nat)(d:Int)(e g:Nat)(h:Int)(k1:Nat->Nat->Int->Int->Op α):Op α:=
 Fp α a b c d e g h
 (fun i j l m=>k1 i j l m)
def wt:dO:=sld YX
def j0:PT (List DV):=pA [pV false [(dMr [(dI .i64),(dI .i64),(dI .i64),(dI .i64),(dI .i64),(dI .i64),(dI .i64),dL,(dI .i64),(dI .i64)] 0)],pV true [(dX .f64),(dI .i64)],pV true [(dX .f64),(dI .i64)]]
def U6 (v:dO)(α:Type)(k:RT α):Int->Int->Int->Int->Int->Int->Int->ae->Int->Int->Nat->Nat->Int->Nat->Nat->Int->Op α:=fun a b c d e g h i j l m o p q r s=>v α a m o p q r s (fun t w z A=>dj k t w z A b c d e g h i j l)
theorem akT:al Pg 78 11 ⟨j0,U6 wt⟩:=iP arD as3 (ag Tryz.func78 (by kernel_rfl)) adc fun _ _=>by kernel_rfl
def asD:TG:=[tT 0 [0,4,5,6],tT 1 [0,6]]
def aua:au:=aB Pg Tryz.f76 asD aR
def aoe:aE:=aE.ofIO (⟨128,23,[⟨K4,Pq FJ⟩]⟩::TE) bG io0
theorem akV:aoe.Ok Pg:=aE.ofIO_ok aP ⟨⟨agv,TT⟩,acW⟩
def Z6 (α:Type)(a:Int)(b c:Nat)(d:Int)(e g:Nat)(h:Int)(k1:Nat->Nat->Int->Int->Op α):Op α:=
 FJ α a b c d e g h
 (fun i j l m=>k1 i j l m)
def eA:dO:=sld Z6
def aar (v:dO)(α:Type)(k:RT α):Int->Int->Int->Int->Int->Int->Int->ae->Int->Int->Nat->Nat->Int->Nat->Nat->Int->Op α:=fun a b c d e g h i j l m o p q r s=>v α a m o p q r s (fun t w z A=>dj k t w z A b c d e g h i j l)
theorem al2:al Pg 76 11 ⟨j0,aar eA⟩:=iP akV aua (ag Tryz.func76 (by kernel_rfl)) adc fun _ _=>by kernel_rfl
def aty:TG:=[tT 0 [0,4,5,6],tT 1 [0,6]]
def auk:au:=aB Pg Tryz.f75 aty aR
def aqN:aE:=aE.ofIO (⟨128,23,[⟨N8,KR FH⟩]⟩::TE) bG io0
theorem akh:aqN.Ok Pg:=aE.ofIO_ok aP ⟨⟨agA,TT⟩,acW⟩
def aam (α:Type)(a:Int)(b c:Nat)(d:Int)(e g:Nat)(h:Int)(k1:Nat->Nat->Int->Int->Op α):Op α:=
 FH α a b c d e g h
 (fun i j l m=>k1 i j l m)
def ir:dO:=sld aam
def aa2 (v:dO)(α:Type)(k:RT α):Int->Int->Int->Int->Int->Int->Int->ae->Int->Int->Nat->Nat->Int->Nat->Nat->Int->Op α:=fun a b c d e g h i j l m o p q r s=>v α a m o p q r s (fun t w z A=>dj k t w z A b c d e g h i j l)
theorem aiB:al Pg 75 11 ⟨j0,aa2 ir⟩:=iP akh auk (ag Tryz.func75 (by kernel_rfl)) adc fun _ _=>by kernel_rfl
def ap6:SG:=[(25,[.cpx .f64,.int .i64]),(28,[.cpx .f64,.int .i64]),(34,[.cpx .f64,.int .i64]),(41,[.cpx .f64,.int .i64]),(45,[.cpx .f64,.int .i64]),(50,[.cpx .f64,.int .i64,.cpx .f64,.int .i64,.cpx .f64,.int .i64,.cpx .f64,.int .i64])]
def aou:TG:=[tT 0 [0,4,5,6],tT 1 [0,4,5,6,7],tT 2 [0,4,5,6,7,12],tT 3 [0,4,5,6,7,12,13],tT 4 [0,4,5,6,7,8,12],tT 5 [0,4,5,6,7,8,9,10,12],tT 6 [0,4,5,6,7,8,9,10,11,12],tT 7 [0,4,5,6,7,12],tT 8 [0,4,5,6,7,12],tT 9 [0,6]]
def apD:TG:=[tT 3 [0,4,5,6,7,12]]
def T1:au:=aB Pg Tryz.f126 aou apD
def art:OT:=tdC (ah.sub [1,1,0,1,0] (emb T1))
def Rt:PT (List RV):=pRs [pR true [rD (dX .f64),rD (dI .i64),rD (dX .f64),rD (dI .i64),rD (dX .f64),rD (dI .i64),rD (dX .f64),rD (dI .i64)],pR true [rD (dI .i64),rD (dI .i64),rD (dI .i64),rD (dI .i64),rD (dI .i64),rD (dI .i64),rD (dI .i64),rD dL,rD (dI .i64),rD (dI .i64)]]
def Ds {β:Type}(g:List RV->β):Nat->Nat->Int->Nat->Nat->Int->Nat->Nat->Int->Nat->Nat->Int->Int->Int->Int->Int->Int->Int->Int->ae->Int->Int->β:=Rt.unc g
noncomputable abbrev acK:List bC:=⟨76,11,[⟨j0,aar eA⟩]⟩::⟨75,11,[⟨j0,aa2 ir⟩]⟩::⟨78,11,[⟨j0,U6 wt⟩]⟩::TE
theorem aly:bF acK fun c=>bF c.l (al Pg c.f c.nt):=⟨⟨al2,TT⟩,⟨aiB,TT⟩,⟨akT,TT⟩,acW⟩
def anK:aE:=aE.ofIO acK bG io0
theorem amV:anK.Ok Pg:=aE.ofIO_ok aP aly
abbrev OA:Type 1:=(α:Type)->Int->Nat->Nat->Int->Nat->Nat->Int->Nat->Nat->Int->Nat->Nat->Int->Nat->Nat->Int->Nat->Nat->Int->Nat->Nat->Int->Nat->Nat->Int->(Nat->Nat->Int->Nat->Nat->Int->Nat->Nat->Int->Nat->Nat->Int->Int->Op α)->Op α
def KD (α:Type)(G:Int)(a b:Nat)(c:Int)(d e:Nat)(g:Int)(h i:Nat)(j:Int)(l m:Nat)(o:Int)(p q:Nat)(r:Int)(s t:Nat)(w:Int)(z A:Nat)(B:Int)(C D:Nat)(F:Int)(k1:Nat->Nat->Int->Nat->Nat->Int->Nat->Nat->Int->Nat->Nat->Int->Int->Op α):Op α:=
 eA α G a b c p q r
 (fun H I J L=>eA α L d e g z A B
 (fun M N O P=>ir α P H I J M N O
 (fun Q R T U=>eA α U a b c s t w
 (fun V W X Y=>eA α Y d e g C D F
 (fun Z a0 a1 a2=>ir α a2 V W X Z a0 a1
 (fun a3 a4 a5 a6=>eA α a6 h i j p q r
 (fun a7 a8 a9 b0=>eA α b0 l m o z A B
 (fun b1 b2 b3 b4=>ir α b4 a7 a8 a9 b1 b2 b3
 (fun b5 b6 b7 b8=>eA α b8 h i j s t w
 (fun b9 c0 c1 c2=>eA α c2 l m o C D F
 (fun c3 c4 c5 c6=>ir α c6 b9 c0 c1 c3 c4 c5
 (fun c7 c8 c9 d0=>k1 Q R T a3 a4 a5 b5 b6 b7 c7 c8 c9 d0))))))))))))
def u9:OA:=sld KD
def ND:PT (List DV):=pA [pV false [(dMr [(dI .i64),(dI .i64),(dI .i64),(dI .i64),(dI .i64),(dI .i64),(dI .i64),dL,(dI .i64),(dI .i64)] 0)],pV true [(dX .f64),(dI .i64),(dX .f64),(dI .i64),(dX .f64),(dI .i64),(dX .f64),(dI .i64)],pV true [(dX .f64),(dI .i64),(dX .f64),(dI .i64),(dX .f64),(dI .i64),(dX .f64),(dI .i64)]]
def K6 (v:OA)(α:Type)(k:RT α):Int->Int->Int->Int->Int->Int->Int->ae->Int->Int->Nat->Nat->Int->Nat->Nat->Int->Nat->Nat->Int->Nat->Nat->Int->Nat->Nat->Int->Nat->Nat->Int->Nat->Nat->Int->Nat->Nat->Int->Op α:=fun a b c d e g h i j l m o p q r s t w z A B C D F G H I J L M N O P Q=>v α a m o p q r s t w z A B C D F G H I J L M N O P Q (fun R T U V W X Y Z a0 a1 a2 a3 a4=>Ds k R T U V W X Y Z a0 a1 a2 a3 a4 b c d e g h i j l)
def abB:ah:=(ah.put (.u 5) [1,1,0,1,0] (emb T1))
theorem agu:al Pg 126 51 ⟨ND,K6 u9⟩:=iZ amV (ag Tryz.func126 (by kernel_rfl)) ap6 abB ((aA _ _).trans (aG _)) (TY (by decide) (aK T1)) fun _ _=>by kernel_rfl
def ate:TG:=[tT 0 [0,4,5,6],tT 1 [0,6]]
def arB:au:=aB Pg Tryz.f77 ate aR
def ao0:aE:=aE.ofIO (⟨128,23,[⟨QD,Kj DS⟩]⟩::acK) bG io0
theorem alV:ao0.Ok Pg:=aE.ofIO_ok aP ⟨⟨afH,TT⟩,aly⟩
def Yb (α:Type)(a:Int)(b c:Nat)(d:Int)(e g:Nat)(h:Int)(k1:Nat->Nat->Int->Int->Op α):Op α:=
 DS α a b c d e g h
 (fun i j l m=>k1 i j l m)
def vY:dO:=sld Yb
def TC (v:dO)(α:Type)(k:RT α):Int->Int->Int->Int->Int->Int->Int->ae->Int->Int->Nat->Nat->Int->Nat->Nat->Int->Op α:=fun a b c d e g h i j l m o p q r s=>v α a m o p q r s (fun t w z A=>dj k t w z A b c d e g h i j l)
theorem aiR:al Pg 77 11 ⟨j0,TC vY⟩:=iP alV arB (ag Tryz.func77 (by kernel_rfl)) adc fun _ _=>by kernel_rfl
def ams:SG:=[(19,iT),(23,iT),(29,[.cpx .f64,.int .i64]),(39,iT),(44,[.cpx .f64,.int .i64]),(52,[.cpx .f64,.int .i64]),(53,[.cpx .f64,.int .i64])]
def asF:TG:=[tT 0 [0,1,4],tT 1 [0,4,5,6],tT 2 [0,4,6,7],tT 3 [0,4,6,7,28],tT 4 [0,4],tT 5 [0,4,7,8],tT 6 [0,4,7,8,40],tT 7 [0,4,7,8],tT 8 [0,4]]
def akC:au:=aB Pg Tryz.f80 asF aR
def DO:PT St:=pSv [(0,500000000,0)] [sl 0 (aV false [(gi 500000000 0)]),sP 4,sP 7,sP 8] [az 500000000 [xI,xI,xI,xI,xI,xI,xI,(cD dL),xI,xI],az 4 [(cD (dX .f64)),xI],az 7 [(cD (dX .f64)),xI],az 8 [(cD (dX .f64)),xI]]
def ae3 {β:Type}(g:St->β):Int->Int->Int->Int->Int->Int->Int->ae->Int->Int->Nat->Nat->Int->Nat->Nat->Int->Nat->Nat->Int->β:=DO.unc g
def aer:PT St:=pSv [(0,500000000,0)] [sl 0 (aV false [(gi 500000000 0)]),sP 4,sP 7,sP 8,sY 40 dB] [az 500000000 [xI,xI,xI,xI,xI,xI,xI,(cD dL),xI,xI],az 4 [(cD (dX .f64)),xI],az 7 [(cD (dX .f64)),xI],az 8 [(cD (dX .f64)),xI]]
def abH {β:Type}(g:St->β):Bool->Int->Int->Int->Int->Int->Int->Int->ae->Int->Int->Nat->Nat->Int->Nat->Nat->Int->Nat->Nat->Int->β:=aer.unc g
def Vx:ah:=ah.sub [1,1,1,1,1,0] (emb akC)
abbrev Gm:Type 1:=(α:Type)->Int->Nat->Nat->Int->(Int->Nat->Nat->Int->Op α)->(Bool->Op α)->Op α
def Ik (α:Type)(a:Int)(b c:Nat)(d:Int)(k1:Int->Nat->Nat->Int->Op α)(k2:Bool->Op α):Op α:=
 cK (a == 0)
 (qD α b c d 1
 (fun e g h i=>fE α
 (k1 i e g h)))
 (k2 (a == 0))
def xJ:Gm:=sld Ik
def OM (v:Gm)(α:Type)(K:KT α):Int->Int->Int->Int->Int->Int->Int->ae->Int->Int->Nat->Nat->Int->Nat->Nat->Int->Nat->Nat->Int->Op α:=fun b c d e g h i j l m o p q r s t w z A=>v α b w z A (fun a B C D=>ae3 (K .normal) a c d e g h i j l m o p q r s t B C D) (fun a=>abH (K .normal) a b c d e g h i j l m o p q r s t w z A)
theorem adu:∀ (α:Type) (K:KT α),OM xJ α K=DO.unc fun σ=>aF Pg anK ams Vx K σ:=bR (fun α K=>by kernel_rfl)
abbrev aaQ:Type 1:=(α:Type)->Int->Int->ae->Int->Int->Int->(Nat->Nat->Int->Int->Op α)->Op α
def XG (α:Type)(l m:Int)(o:ae)(p q r:Int)(k1:Nat->Nat->Int->Int->Op α):Op α:=
 A6 α m o p q r
 (fun s t d=>my α (w64 (s*1048576)) 10000
 (fun w=>nx α (w64 (t*1048576)) 10000
 (fun z=>vE α l w z
 (fun a b c e=>cK (d == 0)
 (k1 a b c e)
 (uU α e d 10000
 (fun g h i j=>xJ α j g h i
 (fun A B C D=>ir α A a b c B C D
 (fun F G H I=>k1 F G H I))
 (fun O=>ir α j a b c g h i
 (fun J L M N=>k1 J L M N))))))))
def BV:aaQ:=sld XG
def U2 (v:aaQ)(α:Type)(k:RT α):Int->Int->Int->Int->Int->Int->Int->ae->Int->Int->Int->Op α:=fun e a g h i j l b c d m=>v α e a b c d m (fun o p q r=>dj k o p q r a g h i j l b c d)
def akG:ah:=(ah.put (.m [⟨DO,OM xJ⟩]) [1,1,1,1,1] (emb akC))
theorem al3:al Pg 80 55 ⟨j5,U2 BV⟩:=iZ amV (ag Tryz.func80 (by kernel_rfl)) ams akG ((aA _ _).trans (aG _)) (bc (by kernel_rfl) (aK akC) ⟨adu,TT⟩) fun _ _=>by kernel_rfl
def anc:SG:=[(23,[.cpx .f64,.int .i64]),(25,[.cpx .f64,.int .i64]),(34,[.cpx .f64,.int .i64]),(36,[.cpx .f64,.int .i64]),(41,[.cpx .f64,.int .i64]),(42,[.cpx .f64,.int .i64]),(47,[.cpx .f64,.int .i64]),(48,[.cpx .f64,.int .i64]),(50,[.cpx .f64,.int .i64]),(51,[.cpx .f64,.int .i64]),(52,[.cpx .f64,.int .i64]),(53,[.cpx .f64,.int .i64])]
def ao1:TG:=[tT 0 [0,4,5,6],tT 1 [0,4,5,6,7],tT 2 [0,4,5,6,7,8],tT 3 [0,4,6,8,9],tT 4 [0,4,6,8,9,10],tT 5 [0,6,8,10,11],tT 6 [0,6]]
def ans:au:=aB Pg Tryz.f127 ao1 aR
noncomputable abbrev aci:List bC:=⟨77,11,[⟨j0,TC vY⟩]⟩::⟨80,55,[⟨j5,U2 BV⟩]⟩::⟨126,51,[⟨ND,K6 u9⟩]⟩::acK
theorem akX:bF aci fun c=>bF c.l (al Pg c.f c.nt):=⟨⟨aiR,TT⟩,⟨al3,TT⟩,⟨agu,TT⟩,aly⟩
def asY:aE:=aE.ofIO aci bG io0
theorem atc:asY.Ok Pg:=aE.ofIO_ok aP akX
abbrev KU:Type 1:=(α:Type)->Int->Nat->Nat->Int->Nat->Nat->Int->(Nat->Nat->Int->Nat->Nat->Int->Nat->Nat->Int->Nat->Nat->Int->Int->Op α)->Op α
def OB (α:Type)(s:Int)(a b:Nat)(c:Int)(d e:Nat)(g:Int)(k1:Nat->Nat->Int->Nat->Nat->Int->Nat->Nat->Int->Nat->Nat->Int->Int->Op α):Op α:=
 uU α s 1 2
 (fun h i j t=>lR α
 (ir α t 4697254411347427328 0 0 d e g
 (fun w z A B=>eA α B w z A h i j
 (fun l m o C=>lR α
 (wt α C 4697254411347427328 0 0 d e g
 (fun D F G H=>eA α H D F G h i j
 (fun p q r I=>vY α I p q r a b c
 (fun J L M N=>eA α N p q r a b c
 (fun O P Q R=>k1 l m o J L M O P Q l m o R)))))))))
def uG:KU:=sld OB
def Ki (v:KU)(α:Type)(k:RT α):Int->Int->Int->Int->Int->Int->Int->ae->Int->Int->Nat->Nat->Int->Nat->Nat->Int->Op α:=fun a b c d e g h i j l m o p q r s=>v α a m o p q r s (fun t w z A B C D F G H I J L=>Ds k t w z A B C D F G H I J L b c d e g h i j l)
theorem abE:al Pg 127 55 ⟨j0,Ki uG⟩:=iP atc ans (ag Tryz.func127 (by kernel_rfl)) anc fun _ _=>by kernel_rfl
def ase:SG:=[(22,iT),(28,iT),(36,iT),(42,iT),(50,[.cpx .f64,.int .i64]),(51,[.cpx .f64,.int .i64]),(56,[.cpx .f64,.int .i64]),(60,[.cpx .f64,.int .i64]),(61,[.cpx .f64,.int .i64]),(76,iT),(82,[.cpx .f64,.int .i64]),(90,[.cpx .f64,.int .i64]),(97,iT),(103,iS 2),(109,iT)]
def asx:TG:=[tT 0 [0,1,4],tT 1 [0,1,4,6],tT 2 [0,1,4,6,7],tT 3 [0,1,4,7,8],tT 4 [0,1,4,8],tT 5 [0,4,8,10],tT 6 [0,4,8,71],tT 7 [0,4,8,77],tT 8 [0,4,5],tT 9 [0,4,5],tT 10 [0,4,11],tT 11 [0,4,11,98],tT 12 [0,4,5],tT 13 [0,4,5]]
def atD:au:=aB Pg Tryz.f35 asx aR
def WU:PT (List RV):=pRs [pR true [rD (dX .f64),rD (dI .i64)],pR false [rD dB],pR true [rD (dI .i64),rD (dI .i64),rD (dI .i64),rD (dI .i64),rD (dI .i64),rD (dI .i64),rD (dI .i64),rD dL,rD (dI .i64),rD (dI .i64)]]
def UP {β:Type}(g:List RV->β):Nat->Nat->Int->Bool->Int->Int->Int->Int->Int->Int->Int->ae->Int->Int->β:=WU.unc g
def ant:aE:=aE.ofIO (⟨85,57,[⟨bD,aax B5⟩]⟩::aci) bG io0
theorem ald:ant.Ok Pg:=aE.ofIO_ok aP ⟨⟨ais,TT⟩,akX⟩
abbrev Z7:Type 1:=(α:Type)->Int->Int->Int->Int->ae->Int->Int->Int->(Nat->Nat->Int->Bool->Int->Op α)->Op α
def UA (α:Type)(w a z A:Int)(c:ae)(d e g:Int)(k1:Nat->Nat->Int->Bool->Int->Op α):Op α:=
 BV α w a c d e g
 (fun h i j B=>my α (w64 ((w64 (a*z))*1048576)) 100000000
 (fun C=>nx α (w64 ((w64 (a*A))*1048576)) 100000000
 (fun D=>vE α B C D
 (fun l m o F=>eA α F h i j h i j
 (fun G H I J=>eA α J l m o l m o
 (fun L M N O=>wt α O G H I L M N
 (fun p q r b=>A6 α a c d e g
 (fun a0 a1 P=>cK (P != 0)
 (cK (b != 0)
 (k1 0 0 0 false b)
 (DB α p q r
 (fun Q R T U=>fE α
 (k1 Q R T false U))))
 (wj α b p q r
 (fun s V a2 a3 t=>cK (t != 0)
 (k1 0 0 0 false t)
 (B5 α s V
 (fun W X Y Z=>fE α
 (k1 W X Y (decide (s < 0)) Z)))))))))))))
def yn:Z7:=sld UA
def X9 (v:Z7)(α:Type)(k:RT α):Int->Int->Int->Int->Int->Int->Int->ae->Int->Int->Int->Op α:=fun h a b c i j l d e g m=>v α h a b c d e g m (fun o p q r s=>UP k o p q r s a b c i j l d e g)
theorem ajd:al Pg 35 111 ⟨j5,X9 yn⟩:=iP ald atD (ag Tryz.func35 (by kernel_rfl)) ase fun _ _=>by kernel_rfl
def ah8:SG:=[(20,[.cpx .f64,.int .i64]),(26,[.sl]),(29,iS 5),(30,iS 5),(35,iT),(41,iS 4),(46,iS 2),(50,iT),(54,iT),(61,iT),(64,iT),(68,iT),(75,iT),(80,iS 4)]
def aok:TG:=[tT 0 [0,1,4],tT 1 [0,1,4,5,6],tT 2 [0,1,4,6,7],tT 3 [0,4,6,7,8],tT 5 [0,4,6,7,8,33],tT 6 [0,4,7,8,37],tT 7 [0,4,7,8],tT 4 [0,4,7,8],tT 8 [0,4,7,8,41,42],tT 9 [0,4,7,8,41,42,43],tT 10 [0,4,7,8,9,10,41,42],tT 11 [0,4,7,8,9,10,41,42],tT 12 [0,4,7,8,41,42],tT 13 [0,4,7,8,41,42],tT 14 [0,4]]
def aqI:TG:=[tT 9 [0,4,7,8,41,42]]
def Mc:au:=aB Pg Tryz.f163 aok aqI
def amM:OT:=tdC (ah.sub [1,1,1,1,1,0,1,0] (emb Mc))
def Am:PT St:=pSv [(0,500000000,0)] [sl 0 (aV false [(gi 500000000 0)]),sP 4,sY 6 dB,sP 7,sP 8] [az 500000000 [xI,xI,xI,xI,xI,xI,xI,(cD dL),xI,xI],az 4 (xs 4),az 7 (xs 4),az 8 (xs 5)]
def aml {β:Type}(g:St->β):Bool->Int->Int->Int->Int->Int->Int->Int->ae->I15 β:=Am.unc g
def Vk:PT St:=pSv [(0,500000000,0)] [sl 0 (aV false [(gi 500000000 0)]),sP 4,sY 6 dB,sP 7,sP 8,sY 33 dB] [az 500000000 [xI,xI,xI,xI,xI,xI,xI,(cD dL),xI,xI],az 4 (xs 4),az 7 (xs 4),az 8 (xs 5)]
def aav {β:Type}(g:St->β):Bool->Bool->Int->Int->Int->Int->Int->Int->Int->ae->I15 β:=Vk.unc g
def TR:PT St:=pSv [(0,500000000,0)] [sl 0 (aV false [(gi 500000000 0)]),sP 4,sP 7,sP 8] [az 500000000 [xI,xI,xI,xI,xI,xI,xI,(cD dL),xI,xI],az 4 (xs 4),az 7 (xs 4),az 8 (xs 5)]
def Wv {β:Type}(g:St->β):Int->Int->Int->Int->Int->Int->Int->ae->I15 β:=TR.unc g
noncomputable abbrev akP:List bC:=⟨35,111,[⟨j5,X9 yn⟩]⟩::⟨127,55,[⟨j0,Ki uG⟩]⟩::aci
theorem apZ:bF akP fun c=>bF c.l (al Pg c.f c.nt):=⟨⟨ajd,TT⟩,⟨abE,TT⟩,akX⟩
def aoX:aE:=aE.ofIO akP bG io0
theorem amZ:aoX.Ok Pg:=aE.ofIO_ok aP apZ
def Uh:ah:=ah.sub [1,1,1,1,0] (emb Mc)
abbrev CO:Type 1:=(α:Type)->Bool->Int->Int->Int->Int->Int->(Bool->Op α)->(I4 (Op α))->Op α
def Cc (α:Type)(b:Bool)(c d e g a:Int)(k1:Bool->Op α)(k2:I4 (Op α)):Op α:=
 cK (a != 0)
 (k1 (a != 0))
 (cK b
 (k2 0 0 e g)
 (k2 c d 0 0))
def si:CO:=sld Cc
def Gy (v:CO)(α:Type)(K:KT α):Bool->Int->Int->Int->Int->Int->Int->Int->ae->I15 (Op α):=fun c d e g h i j l m o p q r s t w z A B C D F G a=>v α c w z A B a (fun b=>aav (K .normal) c b d e g h i j l m o p q r s t w z A B C D F G a) (fun b H I J=>Wv (K .normal) d e g h i j l m o p q r s t b H I J C D F G a)
theorem SR:∀ (α:Type) (K:KT α),Gy si α K=Am.unc fun σ=>aF Pg aoX ah8 Uh K σ:=bR (fun α K=>by kernel_rfl)
abbrev Nh:Type 1:=(α:Type)->Int->Int->Int->Int->Int->Int->ae->Int->Int->Int->(I5 (Op α))->Op α
def KJ (α:Type)(o p q r a b:Int)(e:ae)(s t g:Int)(k1:I5 (Op α)):Op α:=
 yn α o p q r e s t g
 (fun w z A B C=>wj α C w z A
 (fun h i j l m=>gI e (w64 (g - 1)) [.int .i64,.int .i64,.int .i64,.int .i64,.int .i64]
 (fun a1 a2 c d D=>si α B h i j l D
 (fun a3=>tD α h i
 (fun F G=>my α (w64 ((w64 (4*F))*c)) b
 (fun H=>nx α (w64 ((w64 (4*G))*d)) a
 (fun I=>tD α j l
 (fun J L=>my α (w64 ((w64 (4*J))*c)) b
 (fun M=>nx α (w64 ((w64 (4*L))*d)) a
 (fun N=>k1 H I M N m)))))))
 (fun O P Q R=>tD α O P
 (fun T U=>my α (w64 ((w64 (4*T))*c)) b
 (fun V=>nx α (w64 ((w64 (4*U))*d)) a
 (fun W=>tD α Q R
 (fun X Y=>my α (w64 ((w64 (4*X))*c)) b
 (fun Z=>nx α (w64 ((w64 (4*Y))*d)) a
 (fun a0=>k1 V W Z a0 m))))))))))
def zK:Nh:=sld KJ
def Pz (v:Nh)(α:Type)(k:RT α):Int->Int->Int->Int->Int->Int->Int->ae->Int->Int->Int->Op α:=fun j a b c l d e g h i m=>v α j a b c d e g h i m (fun o p q r s=>Hl k o p q r s a b c l d e g h i)
def afC:ah:=(ah.put (.m [⟨Am,Gy si⟩]) [1,1,1,1] (ah.put (.u 3) [1,1,1,1,1,0,1,0] (emb Mc)))
theorem aey:al Pg 163 81 ⟨j5,Pz zK⟩:=iZ amZ (ag Tryz.func163 (by kernel_rfl)) ah8 afC ((aA _ _).trans ((aA _ _).trans (aG _))) (bc (by kernel_rfl) (TY (by decide) (aK Mc)) ⟨SR,TT⟩) fun _ _=>by kernel_rfl
def arX:SG:=[(18,iT),(20,[.cpx .f64,.int .i64]),(30,[.cpx .f64,.int .i64]),(31,[.cpx .f64,.int .i64]),(33,[.cpx .f64,.int .i64])]
def auj:TG:=[tT 0 [0,1,4],tT 1 [0,1,4,5],tT 2 [0,1,4,5,19],tT 3 [0,4],tT 4 [0,4,5,7],tT 5 [0,4]]
def ar6:au:=aB Pg Tryz.f34 auj aR
abbrev aaS:Type 1:=(α:Type)->Int->Int->Int->Int->Int->ae->Int->Int->Int->(Nat->Nat->Int->Int->Op α)->Op α
def SE (α:Type)(p a q r s:Int)(b:ae)(c d e:Int)(k1:Nat->Nat->Int->Int->Op α):Op α:=
 yn α p a q r b c d e
 (fun g h i H j=>cK (s == 0)
 (k1 g h i j)
 (BV α j a b c d e
 (fun l m o t=>eA α t l m o l m o
 (fun w z A B=>vY α B w z A g h i
 (fun C D F G=>k1 C D F G)))))
def mH:aaS:=sld SE
def aai (v:aaS)(α:Type)(k:RT α):Int->Int->Int->Int->Int->Int->Int->ae->Int->Int->Int->Op α:=fun i a b c d j l e g h m=>v α i a b c d e g h m (fun o p q r=>dj k o p q r a b c d j l e g h)
theorem ajQ:al Pg 34 35 ⟨j5,aai mH⟩:=iP amZ ar6 (ag Tryz.func34 (by kernel_rfl)) arX fun _ _=>by kernel_rfl
def ahY:SG:=[(22,iT),(28,iT),(37,iT),(43,iT),(46,iT),(53,iS 2),(62,iT),(68,iS 2),(79,iT),(85,[.cpx .f64,.int .i64]),(90,iT),(92,iT)]
def anP:TG:=[tT 0 [0,1,2,6],tT 1 [0,2,6,7],tT 2 [0,2,6,7,14],tT 3 [0,2,6,7,14,15],tT 4 [0,2,6,7,8,14],tT 5 [0,2,6,7,14],tT 6 [0,2,6,7,14],tT 7 [0,6,7,38],tT 8 [0,6],tT 9 [0,6,7,9],tT 10 [0,6,7,9,48],tT 11 [0,6,7,9],tT 12 [0,6,7,9,63],tT 13 [0,6],tT 14 [0,6,7,9,10],tT 15 [0,6,9,10],tT 16 [0,6,9,10,80],tT 17 [0,6],tT 18 [0,6]]
def aq8:TG:=[tT 3 [0,2,6,7,14]]
def Qw:au:=aB Pg Tryz.f125 anP aq8
def aru:OT:=tdC (ah.sub [1,1,0,1,0] (emb Qw))
def AE:PT St:=pSv [(0,500000000,0)] [sl 0 (aV false [(gi 500000000 0)]),sP 6,sP 7,sP 9] [az 500000000 [xI,xI,xI,xI,xI,xI,xI,(cD dL),xI,xI],az 6 [(cD (dX .f64)),xI],az 7 (xs 4),az 9 [(cD (dX .f64)),xI]]
def ZZ {β:Type}(g:St->β):Int->Int->Int->Int->Int->Int->Int->ae->Int->Int->Nat->Nat->Int->Int->Int->Int->Int->Nat->Nat->Int->β:=AE.unc g
def ZW:PT St:=pSv [(0,500000000,0)] [sl 0 (aV false [(gi 500000000 0)]),sP 6,sP 7,sP 9,sY 48 dB] [az 500000000 [xI,xI,xI,xI,xI,xI,xI,(cD dL),xI,xI],az 6 [(cD (dX .f64)),xI],az 7 (xs 4),az 9 [(cD (dX .f64)),xI]]
def X4 {β:Type}(g:St->β):Bool->Int->Int->Int->Int->Int->Int->Int->ae->Int->Int->Nat->Nat->Int->Int->Int->Int->Int->Nat->Nat->Int->β:=ZW.unc g
noncomputable abbrev ai9:List bC:=⟨163,81,[⟨j5,Pz zK⟩]⟩::⟨34,35,[⟨j5,aai mH⟩]⟩::akP
theorem amD:bF ai9 fun c=>bF c.l (al Pg c.f c.nt):=⟨⟨aey,TT⟩,⟨ajQ,TT⟩,apZ⟩
def aoY:aE:=aE.ofIO ai9 bG io0
theorem arT:aoY.Ok Pg:=aE.ofIO_ok aP amD
def QY:ah:=ah.sub [1,1,1,1,1,0] (emb Qw)
abbrev Cq:Type 1:=(α:Type)->Int->Int->(Int->Nat->Nat->Int->Op α)->(Bool->Op α)->Op α
def Cm (α:Type)(a b:Int)(k1:Int->Nat->Nat->Int->Op α)(k2:Bool->Op α):Op α:=
 cK (decide ((w64 (b - a)) < 1048576))
 (uT α a b
 (fun c d e g=>fE α
 (k1 g c d e)))
 (k2 (decide ((w64 (b - a)) < 1048576)))
def rb:Cq:=sld Cm
def Hg (v:Cq)(α:Type)(K:KT α):Int->Int->Int->Int->Int->Int->Int->ae->Int->Int->Nat->Nat->Int->Int->Int->Int->Int->Nat->Nat->Int->Op α:=fun w d e g h i j l m o p q r a b s t z A B=>v α a b (fun c C D F=>ZZ (K .normal) c d e g h i j l m o p q r a b s t C D F) (fun c=>X4 (K .normal) c w d e g h i j l m o p q r a b s t z A B)
theorem Zm:∀ (α:Type) (K:KT α),Hg rb α K=AE.unc fun σ=>aF Pg aoY ahY QY K σ:=bR (fun α K=>by kernel_rfl)
abbrev Oj:Type 1:=(α:Type)->Int->Int->Int->Int->Int->Int->ae->Int->Int->Int->Int->(Nat->Nat->Int->Int->Op α)->Op α
def N9 (α:Type)(i j l m o p:Int)(q:ae)(r s t a:Int)(k1:Nat->Nat->Int->Int->Op α):Op α:=
 zK α i j l m o p q r s t
 (fun w z e g b=>cK (b != 0)
 (k1 0 0 0 b)
 (rb α (w64 (a*w)) (w64 (a*z))
 (fun h A B C=>cK (h != 0)
 (k1 0 0 0 h)
 (qq α (w64 (a*e)) (w64 (a*g))
 (fun D F c=>cK (c != 0)
 (k1 0 0 0 c)
 (vE α c D F
 (fun G H I J=>eA α J A B C G H I
 (fun L M N O=>k1 L M N O))))))
 (fun a0=>cK (b != 0)
 (k1 0 0 0 b)
 (qq α (w64 (a*e)) (w64 (a*g))
 (fun P Q d=>cK (d != 0)
 (k1 0 0 0 d)
 (vE α d P Q
 (fun R T U V=>eA α V 0 0 1048576 R T U
 (fun W X Y Z=>k1 W X Y Z))))))))
def uJ:Oj:=sld N9
def Pi (v:Oj)(α:Type)(k:RT α):Int->Int->Int->Int->Int->Int->Int->ae->I4 (Op α):=fun j a b c l d e g h i m o=>v α j a b c d e g h i m o (fun p q r s=>dj k p q r s a b c l d e g h i)
def abp:ah:=(ah.put (.u 3) [1,1,0,1,0] (ah.put (.m [⟨AE,Hg rb⟩]) [1,1,1,1,1] (emb Qw)))
theorem ab7:al Pg 125 95 ⟨oT,Pi uJ⟩:=iZ arT (ag Tryz.func125 (by kernel_rfl)) ahY abp ((aA _ _).trans ((aA _ _).trans (aG _))) (TY (by decide) (bc (by kernel_rfl) (aK Qw) ⟨Zm,TT⟩)) fun _ _=>by kernel_rfl
def Sl:SG:=[(22,[.sl]),(30,iT),(45,[.cpx .f64,.int .i64]),(51,[.cpx .f64,.int .i64,.cpx .f64,.int .i64,.cpx .f64,.int .i64,.cpx .f64,.int .i64]),(53,[.cpx .f64,.int .i64]),(54,[.cpx .f64,.int .i64]),(57,[.cpx .f64,.int .i64,.cpx .f64,.int .i64,.cpx .f64,.int .i64,.cpx .f64,.int .i64]),(58,[.cpx .f64,.int .i64])]
def auf:TG:=[tT 0 [0,1,4,5],tT 1 [0,1,4,5,6,7],tT 2 [0,1,4,5,6,7,8],tT 3 [0,1,4,5,6,7,8,32],tT 5 [0,1,4,5,6,7,8,9],tT 6 [0,1,4,5,6,7,8,9,10],tT 7 [0,1,4,5,6,7,8,9,10,41],tT 8 [0,1,4,5,6,7,8,9,10],tT 9 [0,1,4,5,6,7,8],tT 4 [0,1,4,5,6,7,8],tT 10 [0,4,5]]
def atu:TG:=[tT 3 [0,1,4,5,6,7,8]]
def Ur:au:=aB Pg Tryz.f74 auf atu
def AL:OT:=tdC (ah.sub [1,1,0,1,0] (emb Ur))
def xZ:PT St:=pSv [(0,500000000,0)] [sl 0 (aV false [(gi 500000000 0)]),sY 1 dB,sP 4,sP 5,sP 6,sP 7,sI 8,sP 9,sP 10] [az 500000000 [xI,xI,xI,xI,xI,xI,xI,(cD dL),xI,xI],az 4 [(cD (dX .f64)),xI,(cD (dX .f64)),xI,(cD (dX .f64)),xI,(cD (dX .f64)),xI],az 5 [(cD (dX .f64)),xI],az 6 [(cD (dX .f64)),xI,(cD (dX .f64)),xI,(cD (dX .f64)),xI,(cD (dX .f64)),xI],az 7 [(cD (dX .f64)),xI],az 9 [(cD (dX .f64)),xI],az 10 [(cD (dX .f64)),xI]]
def aei {β:Type}(g:St->β):Bool->Int->Int->Int->Int->Int->Int->Int->Int->ae->Int->Int->Nat->Nat->Int->Nat->Nat->Int->Nat->Nat->Int->Nat->Nat->Int->Nat->Nat->Int->Nat->Nat->Int->Nat->Nat->Int->Nat->Nat->Int->Nat->Nat->Int->Nat->Nat->Int->Nat->Nat->Int->Nat->Nat->Int->β:=xZ.unc g
def aeY:PT St:=pSv [(0,500000000,0)] [sl 0 (aV false [(gi 500000000 0)]),sY 1 dB,sP 4,sP 5,sP 6,sP 7,sI 8,sP 9,sP 10,sY 41 dB] [az 500000000 [xI,xI,xI,xI,xI,xI,xI,(cD dL),xI,xI],az 4 [(cD (dX .f64)),xI,(cD (dX .f64)),xI,(cD (dX .f64)),xI,(cD (dX .f64)),xI],az 5 [(cD (dX .f64)),xI],az 6 [(cD (dX .f64)),xI,(cD (dX .f64)),xI,(cD (dX .f64)),xI,(cD (dX .f64)),xI],az 7 [(cD (dX .f64)),xI],az 9 [(cD (dX .f64)),xI],az 10 [(cD (dX .f64)),xI]]
def afk {β:Type}(g:St->β):Bool->Int->Bool->Int->Int->Int->Int->Int->Int->Int->ae->Int->Int->Nat->Nat->Int->Nat->Nat->Int->Nat->Nat->Int->Nat->Nat->Int->Nat->Nat->Int->Nat->Nat->Int->Nat->Nat->Int->Nat->Nat->Int->Nat->Nat->Int->Nat->Nat->Int->Nat->Nat->Int->Nat->Nat->Int->β:=aeY.unc g
def Er:PT St:=pSv [(0,500000000,0)] [sl 0 (aV false [(gi 500000000 0)]),sY 1 dB,sP 4,sP 5,sP 6,sP 7,sI 8] [az 500000000 [xI,xI,xI,xI,xI,xI,xI,(cD dL),xI,xI],az 4 [(cD (dX .f64)),xI,(cD (dX .f64)),xI,(cD (dX .f64)),xI,(cD (dX .f64)),xI],az 5 [(cD (dX .f64)),xI],az 6 [(cD (dX .f64)),xI,(cD (dX .f64)),xI,(cD (dX .f64)),xI,(cD (dX .f64)),xI],az 7 [(cD (dX .f64)),xI]]
def F0 {β:Type}(g:St->β):Bool->Int->Int->Int->Int->Int->Int->Int->Int->ae->Int->Int->Nat->Nat->Int->Nat->Nat->Int->Nat->Nat->Int->Nat->Nat->Int->Nat->Nat->Int->Nat->Nat->Int->Nat->Nat->Int->Nat->Nat->Int->Nat->Nat->Int->Nat->Nat->Int->β:=Er.unc g
def abh:PT St:=pSv [(0,500000000,0)] [sl 0 (aV false [(gi 500000000 0)]),sY 1 dB,sP 4,sP 5,sP 6,sP 7,sI 8,sY 32 dB] [az 500000000 [xI,xI,xI,xI,xI,xI,xI,(cD dL),xI,xI],az 4 [(cD (dX .f64)),xI,(cD (dX .f64)),xI,(cD (dX .f64)),xI,(cD (dX .f64)),xI],az 5 [(cD (dX .f64)),xI],az 6 [(cD (dX .f64)),xI,(cD (dX .f64)),xI,(cD (dX .f64)),xI,(cD (dX .f64)),xI],az 7 [(cD (dX .f64)),xI]]
def wL {β:Type}(g:St->β):Bool->Int->Bool->Int->Int->Int->Int->Int->Int->Int->ae->Int->Int->Nat->Nat->Int->Nat->Nat->Int->Nat->Nat->Int->Nat->Nat->Int->Nat->Nat->Int->Nat->Nat->Int->Nat->Nat->Int->Nat->Nat->Int->Nat->Nat->Int->Nat->Nat->Int->β:=abh.unc g
def Ua:PT (List RV):=pRs [pR true [rD (dX .f64),rD (dI .i64),rD (dX .f64),rD (dI .i64),rD (dX .f64),rD (dI .i64),rD (dX .f64),rD (dI .i64)],pR true [rD (dX .f64),rD (dI .i64)],pR true [rD (dI .i64),rD (dI .i64),rD (dI .i64),rD (dI .i64),rD (dI .i64),rD (dI .i64),rD (dI .i64),rD dL,rD (dI .i64),rD (dI .i64)]]
def X7 {β:Type}(g:List RV->β):Nat->Nat->Int->Nat->Nat->Int->Nat->Nat->Int->Nat->Nat->Int->Nat->Nat->Int->Int->Int->Int->Int->Int->Int->Int->ae->Int->Int->β:=Ua.unc g
noncomputable abbrev ajf:List bC:=⟨125,95,[⟨oT,Pi uJ⟩]⟩::ai9
theorem amg:bF ajf fun c=>bF c.l (al Pg c.f c.nt):=⟨⟨ab7,TT⟩,amD⟩
def Ss:aE:=aE.ofIO ajf bG io0
theorem asy:Ss.Ok Pg:=aE.ofIO_ok aP amg
def V1:ah:=ah.sub [1,1,0,1,0,0,1,0,0,1,1,0] (emb Ur)
abbrev Il:Type 1:=(α:Type)->Bool->Int->Int->Int->Int->Int->Int->Int->ae->Int->Int->Nat->Nat->Int->(Int->Nat->Nat->Int->Op α)->(Op α)->Op α
def GN (α:Type)(a:Bool)(b c d e g h i:Int)(j:ae)(l m:Int)(o p:Nat)(q:Int)(k1:Int->Nat->Nat->Int->Op α)(k2:Op α):Op α:=
 cK a
 (uJ α c d e g h i j l m b 1
 (fun r s t w=>eA α w o p q r s t
 (fun z A B C=>k1 C z A B)))
 (k2)
def sL:Il:=sld GN
def ES (v:Il)(α:Type)(K:KT α):Bool->Int->Int->Int->Int->Int->Int->Int->Int->ae->Int->Int->Nat->Nat->Int->Nat->Nat->Int->Nat->Nat->Int->Nat->Nat->Int->Nat->Nat->Int->Nat->Nat->Int->Nat->Nat->Int->Nat->Nat->Int->Nat->Nat->Int->Nat->Nat->Int->Nat->Nat->Int->Nat->Nat->Int->Op α:=fun a b m c d e o g h i j l p q r s t w z A B C D F G H I J L M N O P Q R T U V W X Y Z a0 a1 a2 a3 a4 a5=>v α a b m c d e g h i j l X Y Z (fun a6 a7 a8 a9=>aei (K .normal) a b a6 c d e o g h i j l p q r s t w z A B C D F G H I J L M N O P Q R T U V W a7 a8 a9 a0 a1 a2 a3 a4 a5) (afk (K .normal) a b a m c d e o g h i j l p q r s t w z A B C D F G H I J L M N O P Q R T U V W X Y Z a0 a1 a2 a3 a4 a5)
theorem ach:∀ (α:Type) (K:KT α),ES sL α K=xZ.unc fun σ=>aF Pg Ss Sl V1 K σ:=bR (fun α K=>by kernel_rfl)
def wV:ah:=ah.sub [1,1,0,1,0,0] (ah.put (.m [⟨xZ,ES sL⟩]) [1,1,0,1,0,0,1,0,0,1,1] (emb Ur))
def rT (α:Type)(P:Bool)(z A B Q F G:Int)(c:ae)(C D a b:Int)(d e:Nat)(g:Int)(h i:Nat)(j:Int)(l m:Nat)(o:Int)(p q:Nat)(r:Int)(s t:Nat)(w:Int)(kn:Int->Int->Nat->Nat->Int->Nat->Nat->Int->Nat->Nat->Int->Nat->Nat->Int->Nat->Nat->Int->Op α)(k1:Int->Bool->Int->Nat->Nat->Int->Nat->Nat->Int->Nat->Nat->Int->Nat->Nat->Int->Nat->Nat->Int->Op α):Op α:=
 cK (decide (a<=((List.length c:Nat):Int)))
 (cK (b == 0)
 (mH α b z A B Q c C D a
 (fun H I J R=>uJ α R z A B F G c C D a 2
 (fun L M N O=>sL α P a O z A B F G c C D s t w
 (fun T U V W=>uG α T H I J L M N
 (fun X Y Z a0 a1 a2 a3 a4 a5 a6 a7 a8 a9=>u9 α a9 d e g h i j l m o p q r X Y Z a0 a1 a2 a3 a4 a5 a6 a7 a8
 (fun b0 b1 b2 b3 b4 b5 b6 b7 b8 b9 c0 c1 c2=>kn (w64 (a+1)) c2 b0 b1 b2 b3 b4 b5 b6 b7 b8 b9 c0 c1 U V W)))
 (uG α O H I J L M N
 (fun c3 c4 c5 c6 c7 c8 c9 d0 d1 d2 d3 d4 d5=>u9 α d5 d e g h i j l m o p q r c3 c4 c5 c6 c7 c8 c9 d0 d1 d2 d3 d4
 (fun d6 d7 d8 d9 e0 e1 e2 e3 e4 e5 e6 e7 e8=>kn (w64 (a+1)) e8 d6 d7 d8 d9 e0 e1 e2 e3 e4 e5 e6 e7 s t w))))))
 (k1 a (b == 0) b d e g h i j l m o p q r s t w))
 (k1 a false b d e g h i j l m o p q r s t w)
def oz (α:Type)(a:Bool)(b c d e g h:Int)(i:ae)(j l:Int)(k1:Int->Bool->Int->Nat->Nat->Int->Nat->Nat->Int->Nat->Nat->Int->Nat->Nat->Int->Nat->Nat->Int->Op α):Nat->Int->Int->Nat->Nat->Int->Nat->Nat->Int->Nat->Nat->Int->Nat->Nat->Int->Nat->Nat->Int->Op α
 | 0=>fun _ _ _ _ _ _ _ _ _ _ _ _ _ _ _ _ _=>none
 | n+1=>fun m o p q r s t w z A B C D F G H I=>rT α a b c d e g h i j l m o p q r s t w z A B C D F G H I (oz α a b c d e g h i j l k1 n) k1
def GU (α:Type)(a:Bool)(b c d e g h:Int)(i:ae)(j l:Int)(k1:Int->Bool->Int->Nat->Nat->Int->Nat->Nat->Int->Nat->Nat->Int->Nat->Nat->Int->Nat->Nat->Int->Op α)(m o:Int)(p q:Nat)(r:Int)(s t:Nat)(w:Int)(z A:Nat)(B:Int)(C D:Nat)(F:Int)(G H:Nat)(I:Int):Op α:=oz α a b c d e g h i j l k1 aN m o p q r s t w z A B C D F G H I
abbrev H1:Type 1:=(α:Type)->Bool->Int->Int->Int->Int->Int->Int->ae->Int->Int->(Int->Bool->Int->Nat->Nat->Int->Nat->Nat->Int->Nat->Nat->Int->Nat->Nat->Int->Nat->Nat->Int->Op α)->Int->Int->Nat->Nat->Int->Nat->Nat->Int->Nat->Nat->Int->Nat->Nat->Int->Nat->Nat->Int->Op α
def xA:H1:=sld GU
def MJ (v:H1)(α:Type)(K:KT α):Bool->Int->Int->Int->Int->Int->Int->Int->Int->ae->Int->Int->Nat->Nat->Int->Nat->Nat->Int->Nat->Nat->Int->Nat->Nat->Int->Nat->Nat->Int->Nat->Nat->Int->Nat->Nat->Int->Nat->Nat->Int->Nat->Nat->Int->Nat->Nat->Int->Op α:=fun a m o b c d e g h i j l p q r s t w z A B C D F G H I J L M N O P Q R T U V W X Y Z=>v α a b c d e g h i j l (fun a0 a1 a2 a3 a4 a5 a6 a7 a8 a9 b0 b1 b2 b3 b4 b5 b6 b7=>wL (K (.exit 0)) a a0 a1 a2 b c d e g h i j l p q r s t w z A B C D F G H I a3 a4 a5 a6 a7 a8 a9 b0 b1 b2 b3 b4 b5 b6 b7) m o J L M N O P Q R T U V W X Y Z
theorem aeJ (α:Type)(K:KT α)(Kn:SK α)(a:Bool)(b c d e g h i j:Int)(l:ae)(m o:Int)(J L:Nat)(M:Int)(N O:Nat)(P:Int)(Q R:Nat)(T:Int)(U V:Nat)(W:Int)(X Y:Nat)(Z:Int)(p q:Nat)(r:Int)(s t:Nat)(w:Int)(z A:Nat)(B:Int)(C D:Nat)(F:Int)(G H:Nat)(I:Int):F0 (fun σ=>aF Pg Ss Sl wV (cX (fun σ=>bW AL σ Kn) K) σ) a b c d e g h i j l m o J L M N O P Q R T U V W X Y Z p q r s t w z A B C D F G H I=rT α a d e g h i j l m o b c p q r s t w z A B C D F G H I (fun b c p q r s t w z A B C D F G H I=>F0 Kn a b c d e g h i j l m o J L M N O P Q R T U V W X Y Z p q r s t w z A B C D F G H I) (fun a0 a1 a2 a3 a4 a5 a6 a7 a8 a9 b0 b1 b2 b3 b4 b5 b6 b7=>wL (K (.exit 0)) a a0 a1 a2 d e g h i j l m o J L M N O P Q R T U V W X Y Z a3 a4 a5 a6 a7 a8 a9 b0 b1 b2 b3 b4 b5 b6 b7):=by kernel_rfl
theorem aeX (α:Type)(K:KT α):∀ (n:Nat) (a:Bool) (m o b c d e g h:Int) (i:ae) (j l:Int) (J L:Nat) (M:Int) (N O:Nat) (P:Int) (Q R:Nat) (T:Int) (U V:Nat) (W:Int) (X Y:Nat) (Z:Int) (p q:Nat) (r:Int) (s t:Nat) (w:Int) (z A:Nat) (B:Int) (C D:Nat) (F:Int) (G H:Nat) (I:Int),oz α a b c d e g h i j l (fun a0 a1 a2 a3 a4 a5 a6 a7 a8 a9 b0 b1 b2 b3 b4 b5 b6 b7=>wL (K (.exit 0)) a a0 a1 a2 b c d e g h i j l J L M N O P Q R T U V W X Y Z a3 a4 a5 a6 a7 a8 a9 b0 b1 b2 b3 b4 b5 b6 b7) n m o p q r s t w z A B C D F G H I=F0 (aS (aF Pg Ss Sl wV) AL K n) a m o b c d e g h i j l J L M N O P Q R T U V W X Y Z p q r s t w z A B C D F G H I:=by
 intro n
 induction n with
 | zero=>intros;rfl
 | succ n ih=>intro a m o b c d e g h i j l J L M N O P Q R T U V W X Y Z p q r s t w z A B C D F G H I;exact (congrArg (fun kn=>rT α a b c d e g h i j l m o p q r s t w z A B C D F G H I kn (fun a0 a1 a2 a3 a4 a5 a6 a7 a8 a9 b0 b1 b2 b3 b4 b5 b6 b7=>wL (K (.exit 0)) a a0 a1 a2 b c d e g h i j l J L M N O P Q R T U V W X Y Z a3 a4 a5 a6 a7 a8 a9 b0 b1 b2 b3 b4 b5 b6 b7)) (funext fun m=>funext fun o=>funext fun p=>funext fun q=>funext fun r=>funext fun s=>funext fun t=>funext fun w=>funext fun z=>funext fun A=>funext fun B=>funext fun C=>funext fun D=>funext fun F=>funext fun G=>funext fun H=>funext fun I=>ih a m o b c d e g h i j l J L M N O P Q R T U V W X Y Z p q r s t w z A B C D F G H I)).trans (aeJ α K (aS (aF Pg Ss Sl wV) AL K n) a m o b c d e g h i j l J L M N O P Q R T U V W X Y Z p q r s t w z A B C D F G H I).symm
theorem aff:∀ (α:Type) (K:KT α),MJ xA α K=Er.unc fun σ=>aS (aF Pg Ss Sl wV) AL K aN σ:=bR (fun α K=>funext fun a=>funext fun b=>funext fun c=>funext fun d=>funext fun e=>funext fun g=>funext fun h=>funext fun i=>funext fun j=>funext fun l=>funext fun m=>funext fun o=>funext fun p=>funext fun q=>funext fun r=>funext fun s=>funext fun t=>funext fun w=>funext fun z=>funext fun A=>funext fun B=>funext fun C=>funext fun D=>funext fun F=>funext fun G=>funext fun H=>funext fun I=>funext fun J=>funext fun L=>funext fun M=>funext fun N=>funext fun O=>funext fun P=>funext fun Q=>funext fun R=>funext fun T=>funext fun U=>funext fun V=>funext fun W=>funext fun X=>funext fun Y=>funext fun Z=>aeX α K aN a b c d e g h i j l m o p q r s t w z A B C D F G H I J L M N O P Q R T U V W X Y Z)
abbrev Tf:Type 1:=(α:Type)->Int->Int->Int->Int->Int->Int->Int->ae->Int->Int->Bool->(Nat->Nat->Int->Nat->Nat->Int->Nat->Nat->Int->Nat->Nat->Int->Nat->Nat->Int->Int->Op α)->Op α
def Zu (α:Type)(a b c d e g h:Int)(i:ae)(j l:Int)(m:Bool)(k1:Nat->Nat->Int->Nat->Nat->Int->Nat->Nat->Int->Nat->Nat->Int->Nat->Nat->Int->Int->Op α):Op α:=
 lR α
 (yJ α
 (yJ α
 (lR α
 (lR α
 (xA α m b c d e g h i j l
 (fun J L o p q r s t w z A B C D F G H I=>k1 p q r s t w z A B C D F G H I o) 1 a 4697254411347427328 0 0 0 0 0 0 0 0 4697254411347427328 0 0 4697254411347427328 0 0)))))
def G8:Tf:=sld Zu
def D7:PT (List DV):=pA [pV false [(dMr [(dI .i64),(dI .i64),(dI .i64),(dI .i64),(dI .i64),(dI .i64),(dI .i64),dL,(dI .i64),(dI .i64)] 0)],pV false [dB]]
def ZR (v:Tf)(α:Type)(k:RT α):Int->Int->Int->Int->Int->Int->Int->ae->Int->Int->Bool->Op α:=fun l a b c d e g h i j m=>v α l a b c d e g h i j m (fun o p q r s t w z A B C D F G H I=>X7 k o p q r s t w z A B C D F G H I a b c d e g h i j)
def ajy:ah:=(ah.put (.m [⟨Er,MJ xA⟩]) [1,1,0,1,0] (ah.put (.m [⟨xZ,ES sL⟩]) [1,1,0,1,0,0,1,0,0,1,1] (emb Ur)))
theorem aif:al Pg 74 59 ⟨D7,ZR G8⟩:=iZ asy (ag Tryz.func74 (by kernel_rfl)) Sl ajy ((aA _ _).trans ((aA _ _).trans (aG _))) (bK (td:=AL) (by kernel_rfl) (bc (by kernel_rfl) (aK Ur) ⟨ach,TT⟩) ⟨aff,TT⟩) fun _ _=>by kernel_rfl
end
end Go.AM.K
