/- Printed by KGen. -/
import Derived.Test.YtffcelhcekillaaGreatRd
namespace Go.AM.K
open Go.Proofs
set_option maxRecDepth 100000
set_option linter.unusedVariables false
noncomputable section
def aBu:SG:=[(4,iS 3),(7,iT),(9,iT),(13,iT),(15,iT)]
def aCt:TG:=[tT 0 [1,2],tT 1 [2,3],tT 2 [2]]
def aCz:aq:=aw Pg Tryz.f176 aCt aC
noncomputable abbrev Lk5:List bC:=⟨212,15,[⟨cZ,XD Ii⟩]⟩::⟨241,92,[⟨ef,Si Dt⟩]⟩::⟨249,37,[⟨ba,Rx g7⟩]⟩::⟨267,25,[⟨ef,Vz El⟩]⟩::⟨266,70,[⟨ef,WI Bu⟩]⟩::⟨265,25,[⟨ef,Xq BH⟩]⟩::⟨72,27,[⟨pE,ahk Mn⟩]⟩::⟨73,37,[⟨aga,aiW Fz⟩]⟩::⟨204,6,[⟨ba,To nb⟩]⟩::⟨282,42,[⟨aU,Zs kT⟩]⟩::⟨200,63,[⟨eY,YU mO⟩]⟩::⟨226,39,[⟨eY,YS BL⟩]⟩::⟨202,37,[⟨TD,QT BT⟩]⟩::⟨229,32,[⟨bt,U5 Ce⟩]⟩::⟨193,40,[⟨ba,Um mu⟩]⟩::⟨93,107,[⟨eV,akP Fu⟩]⟩::⟨92,29,[⟨pE,aey H2⟩]⟩::⟨283,73,[⟨ba,Uk xo⟩]⟩::⟨284,45,[⟨ba,Sj r8⟩]⟩::⟨270,30,[⟨bt,Tv yJ⟩]⟩::⟨210,95,[⟨cZ,Tj xp⟩]⟩::⟨215,32,[⟨ba,SX si⟩]⟩::⟨14,111,[⟨eN,af8 Hg⟩]⟩::Lk4
theorem ak5:bH Lk5 fun c=>bH c.l (ak Pg c.f c.nt):=⟨⟨apL,trivial⟩,⟨anI,trivial⟩,⟨atE,trivial⟩,⟨asW,trivial⟩,⟨amV,trivial⟩,⟨amu,trivial⟩,⟨azE,trivial⟩,⟨ayY,trivial⟩,⟨ap2,trivial⟩,⟨aqn,trivial⟩,⟨auN,trivial⟩,⟨aoA,trivial⟩,⟨amX,trivial⟩,⟨atP,trivial⟩,⟨am9,trivial⟩,⟨azt,trivial⟩,⟨ayu,trivial⟩,⟨auT,trivial⟩,⟨aoy,trivial⟩,⟨aub,trivial⟩,⟨aqv,trivial⟩,⟨atc,trivial⟩,⟨ayU,trivial⟩,ak4⟩
def Ek5:aF:=aF.ofIO Lk5 bu io0
theorem ek5:Ek5.Ok Pg:=aF.ofIO_ok aN ak5
def RM (α:Type)(c d e:Int)(k1:Int->Int->Op α):Op α:=
 Ii α c d e
 (fun a b=>dD α (w64 (a*a)) 1048576
 (fun g=>cn α (w64 (b*b)) 1048576
 (fun h=>k1 g h)))
def xd:fU:=sld RM
def Y6 (v:fU)(α:Type)(k:RT α):Int->Int->Int->Op α:=fun a b c=>v α a b c (fun d e=>bv k d e)
theorem arf:ak Pg 176 19 ⟨cZ,Y6 xd⟩:=iP ek5 aCz (ag Tryz.func176 (by kernel_rfl)) aBu fun _ _=>by kernel_rfl
def Ra:SG:=[(10,iT),(14,iS 3),(15,iS 3)]
def aFF:TG:=[tT 0 [0,4,5,6],tT 1 [0,4,5,6,11],tT 2 [0,6],tT 3 [0,6]]
def aAD:aq:=aw Pg Tryz.f206 aFF aC
abbrev j8:Type 1:=(α:Type)->Int->Int->Int->Int->Int->Int->Int->(I4 (Op α))->Op α
def X0 (α:Type)(a b c d e g h:Int)(k1:I4 (Op α)):Op α:=
 cK (a != 0)
 (k1 0 0 0 a)
 (Dt α b c d e g h
 (fun i j l m=>du α a i j l m
 (fun o p q r=>k1 o p q r)))
def kO:j8:=sld X0
def ia:PT (List DV):=pA [pV false [(dMr [(dI .i64)] 0)],pV true [(dI .i64),(dI .i64),(dI .i64)],pV true [(dI .i64),(dI .i64),(dI .i64)]]
def RJ (v:j8)(α:Type)(k:RT α):I7 (Op α):=fun a b c d e g h=>v α a b c d e g h (fun i j l m=>ei k i j l m)
theorem ask:ak Pg 206 20 ⟨ia,RJ kO⟩:=iP ek5 aAD (ag Tryz.func206 (by kernel_rfl)) Ra fun _ _=>by kernel_rfl
def aBz:SG:=[(9,iS 2),(18,iT),(21,iT),(25,iT),(33,iT),(38,iT),(43,iT),(51,iS 3)]
def aCg:TG:=[tT 0 [1,2],tT 1 [1,2,5],tT 2 [1,2,5,14],tT 3 [2,3],tT 4 [1,2,19],tT 5 [2,3],tT 6 [1,2,34],tT 7 [2,3],tT 8 [2,6,7],tT 9 [2,3]]
def aGd:aq:=aw Pg Tryz.f211 aCg aC
def XW (α:Type)(a b:Int)(k1:I4 (Op α)):Op α:=
 g7 α a b
 (fun w z A c=>cK (c != 0)
 (k1 0 0 0 c)
 (cK (decide (0<=a))
 (dj α (w64 (a*1048576))
 (fun d=>oS α (w64 (b*1048576))
 (fun e=>g7 α d e
 (fun g h i j=>k1 g h i j))))
 (cK (decide (0 < b))
 (k1 0 0 0 14)
 (dj α (w64 ((w64 (0 - b))*1048576))
 (fun l=>oS α (w64 ((w64 (0 - a))*1048576))
 (fun m=>g7 α l m
 (fun o p q r=>sr α o p 1
 (fun s t=>k1 s t q r))))))))
def xr:ke:=sld XW
def Tn (v:ke)(α:Type)(k:RT α):Int->Int->Op α:=fun a b=>v α a b (fun c d e g=>bG k c d e g)
theorem arq:ak Pg 211 54 ⟨ba,Tn xr⟩:=iP ek5 aGd (ag Tryz.func211 (by kernel_rfl)) aBz fun _ _=>by kernel_rfl
def aGW:TG:=[tT 0 [0,4,5,6],tT 1 [0,4,5,6,11],tT 2 [0,6],tT 3 [0,6]]
def aHJ:aq:=aw Pg Tryz.f240 aGW aC
def WE (α:Type)(a b c d e g h:Int)(k1:I4 (Op α)):Op α:=
 cK (a != 0)
 (k1 0 0 0 a)
 (El α b c d e g h
 (fun i j l m=>du α a i j l m
 (fun o p q r=>k1 o p q r)))
def mV:j8:=sld WE
def Uu (v:j8)(α:Type)(k:RT α):I7 (Op α):=fun a b c d e g h=>v α a b c d e g h (fun i j l m=>ei k i j l m)
theorem ao6:ak Pg 240 20 ⟨ia,Uu mV⟩:=iP ek5 aHJ (ag Tryz.func240 (by kernel_rfl)) Ra fun _ _=>by kernel_rfl
def aDC:TG:=[tT 0 [0,4,5,6],tT 1 [0,4,5,6,11],tT 2 [0,6],tT 3 [0,6]]
def aA6:aq:=aw Pg Tryz.f239 aDC aC
def Ze (α:Type)(a b c d e g h:Int)(k1:I4 (Op α)):Op α:=
 cK (a != 0)
 (k1 0 0 0 a)
 (Bu α b c d e g h
 (fun i j l m=>du α a i j l m
 (fun o p q r=>k1 o p q r)))
def cj:j8:=sld Ze
def YN (v:j8)(α:Type)(k:RT α):I7 (Op α):=fun a b c d e g h=>v α a b c d e g h (fun i j l m=>ei k i j l m)
theorem an5:ak Pg 239 20 ⟨ia,YN cj⟩:=iP ek5 aA6 (ag Tryz.func239 (by kernel_rfl)) Ra fun _ _=>by kernel_rfl
def aEy:SG:=[(8,iT),(11,iT),(14,iT),(17,iT)]
def aBR:TG:=[tT 0 [0,3,4],tT 1 [0,4,5,6],tT 2 [0,4]]
def aHY:aq:=aw Pg Tryz.f243 aBR aC
def Re (α:Type)(b a c d:Int)(k1:I4 (Op α)):Op α:=
 dD α (w64 ((w64 (a*c))*1048576)) 100000000
 (fun e=>cn α (w64 ((w64 (a*d))*1048576)) 100000000
 (fun g=>g7 α e g
 (fun h i j l=>du α b h i j l
 (fun m o p q=>k1 m o p q))))
def CW:Ai:=sld Re
def Xc:PT (List DV):=pA [pV false [(dMr [(dI .i64)] 0)],pV true [(dI .i64),(dI .i64),(dI .i64),(dI .i64),(dI .i64),(dI .i64),dL,(dI .i64),(dI .i64)]]
def T4 (v:Ai)(α:Type)(k:RT α):Int->Int->Int->Int->Int->Int->Int->ae->Int->Int->Op α:=fun a b c d j l m o p q=>v α a b c d (fun e g h i=>ei k e g h i)
theorem anV:ak Pg 243 31 ⟨Xc,T4 CW⟩:=iP ek5 aHY (ag Tryz.func243 (by kernel_rfl)) aEy fun _ _=>by kernel_rfl
def aBp:TG:=[tT 0 [0,4,5,6],tT 1 [0,4,5,6,11],tT 2 [0,6],tT 3 [0,6]]
def aGq:aq:=aw Pg Tryz.f238 aBp aC
def SS (α:Type)(a b c d e g h:Int)(k1:I4 (Op α)):Op α:=
 cK (a != 0)
 (k1 0 0 0 a)
 (BH α b c d e g h
 (fun i j l m=>du α a i j l m
 (fun o p q r=>k1 o p q r)))
def eH:j8:=sld SS
def Ws (v:j8)(α:Type)(k:RT α):I7 (Op α):=fun a b c d e g h=>v α a b c d e g h (fun i j l m=>ei k i j l m)
theorem as5:ak Pg 238 20 ⟨ia,Ws eH⟩:=iP ek5 aGq (ag Tryz.func238 (by kernel_rfl)) Ra fun _ _=>by kernel_rfl
def aIH:SG:=[(10,[.sl]),(20,[.sl]),(22,iS 2)]
def aJ5:TG:=[tT 0 [1],tT 1 [1,4,5],tT 2 [1,4,5,15],tT 3 [2,3],tT 4 [7],tT 5 [2,3]]
def aIZ:aq:=aw Pg Tryz.f36 aJ5 aC
abbrev Ka:Type 1:=(α:Type)->ae->ae->Int->Int->(Int->Int->Op α)->Op α
def acB (α:Type)(b c:ae)(d e:Int)(k1:Int->Int->Op α):Op α:=
 Mn α b
 (fun g a=>cK (a != 0)
 (k1 g a)
 (Fz α c d e
 (fun i h=>k1 0 h)))
def M3:Ka:=sld acB
def kZ:PT (List DV):=pA [pV true [dL,dL,(dI .i64),(dI .i64)]]
def aeG (v:Ka)(α:Type)(k:RT α):ae->ae->Int->Int->Op α:=fun a b c d=>v α a b c d (fun e g=>fw k e g)
theorem ayi:ak Pg 36 27 ⟨kZ,aeG M3⟩:=iP ek5 aIZ (ag Tryz.func36 (by kernel_rfl)) aIH fun _ _=>by kernel_rfl
def aA3:SG:=[(4,iS 2),(7,iT),(11,iS 2),(14,iT)]
def aAy:TG:=[tT 0 [1,2],tT 1 [2]]
def aFM:aq:=aw Pg Tryz.f166 aAy aC
def Xp (α:Type)(b c a:Int)(k1:Int->Int->Op α):Op α:=
 oQ α b c
 (fun d=>nb α b c
 (fun e=>k1 (if (w64 (d - a)) > 0 then (w64 (d - a)) else 0) (w64 (e+a))))
def H5:fU:=sld Xp
def W7 (v:fU)(α:Type)(k:RT α):Int->Int->Int->Op α:=fun a b c=>v α a b c (fun d e=>bv k d e)
theorem asX:ak Pg 166 17 ⟨cZ,W7 H5⟩:=iP ek5 aFM (ag Tryz.func166 (by kernel_rfl)) aA3 fun _ _=>by kernel_rfl
def ab3:SG:=[(30,iT),(32,iT)]
def aC7:TG:=[tT 0 [0,2],tT 1 [0,2],tT 2 [0,2,9],tT 3 [2],tT 4 [0,2,16],tT 5 [2],tT 6 [0,2,23],tT 7 [2,3],tT 8 [2],tT 9 [2]]
def afX:aq:=aw Pg Tryz.f274 aC7 aC
def VM (α:Type)(a:Int)(k1:Int->Int->Op α):Op α:=
 gT α a 4194304
 (fun b=>cK (decide (2097152<=(w64 (a - (w64 (4194304*b))))))
 (none)
 (cK (decide (1048576<=(w64 (a - (w64 (4194304*b))))))
 (none)
 (cK (decide (524288 < (w64 (a - (w64 (4194304*b))))))
 (kT α (w64 (1048576 - (w64 (a - (w64 (4194304*b))))))
 (fun c d=>k1 d c))
 (kT α (w64 (a - (w64 (4194304*b))))
 (fun e g=>k1 e g)))))
def Bc:dN:=sld VM
def UN (v:dN)(α:Type)(k:RT α):Int->Op α:=fun a=>v α a (fun b c=>bv k b c)
theorem atL:ak Pg 274 36 ⟨aU,UN Bc⟩:=iP ek5 afX (ag Tryz.func274 (by kernel_rfl)) ab3 fun _ _=>by kernel_rfl
noncomputable abbrev Lk6:List bC:=⟨274,36,[⟨aU,UN Bc⟩]⟩::⟨239,20,[⟨ia,YN cj⟩]⟩::⟨238,20,[⟨ia,Ws eH⟩]⟩::⟨240,20,[⟨ia,Uu mV⟩]⟩::⟨206,20,[⟨ia,RJ kO⟩]⟩::⟨166,17,[⟨cZ,W7 H5⟩]⟩::⟨243,31,[⟨Xc,T4 CW⟩]⟩::⟨211,54,[⟨ba,Tn xr⟩]⟩::⟨176,19,[⟨cZ,Y6 xd⟩]⟩::⟨36,27,[⟨kZ,aeG M3⟩]⟩::Lk5
theorem ak6:bH Lk6 fun c=>bH c.l (ak Pg c.f c.nt):=⟨⟨atL,trivial⟩,⟨an5,trivial⟩,⟨as5,trivial⟩,⟨ao6,trivial⟩,⟨ask,trivial⟩,⟨asX,trivial⟩,⟨anV,trivial⟩,⟨arq,trivial⟩,⟨arf,trivial⟩,⟨ayi,trivial⟩,ak5⟩
def Ek6:aF:=aF.ofIO Lk6 bu io0
theorem ek6:Ek6.Ok Pg:=aF.ofIO_ok aN ak6
def Lr (vv:dN)(α:Type)(a:Int)(k1:Int->Int->Op α):Op α:=
 gT α a 4194304
 (fun b=>cK (decide (2097152<=(w64 (a - (w64 (4194304*b))))))
 (vv α (w64 ((w64 (a - (w64 (4194304*b)))) - 2097152))
 (fun c d=>ni α c d 2
 (fun e g=>k1 e g)))
 (cK (decide (1048576<=(w64 (a - (w64 (4194304*b))))))
 (vv α (w64 ((w64 (a - (w64 (4194304*b)))) - 1048576))
 (fun h i=>ni α h i 1
 (fun j l=>k1 j l)))
 (cK (decide (524288 < (w64 (a - (w64 (4194304*b))))))
 (kT α (w64 (1048576 - (w64 (a - (w64 (4194304*b))))))
 (fun m o=>k1 o m))
 (kT α (w64 (a - (w64 (4194304*b))))
 (fun p q=>k1 p q)))))
def KC:=Lr Bc
def yB:dN:=sld KC
def Wf (v:dN)(α:Type)(k:RT α):Int->Op α:=fun a=>v α a (fun b c=>bv k b c)
theorem auh:ak Pg 274 36 ⟨aU,Wf yB⟩:=iP ek6 afX (ag Tryz.func274 (by kernel_rfl)) ab3 fun _ _=>by kernel_rfl
def awx:aF:=aF.ofIO (⟨274,36,[⟨aU,Wf yB⟩]⟩::Lk6) bu io0
theorem aoq:awx.Ok Pg:=aF.ofIO_ok aN ⟨⟨auh,trivial⟩,ak6⟩
def UY:=Lr yB
def C0:dN:=sld UY
def QX (v:dN)(α:Type)(k:RT α):Int->Op α:=fun a=>v α a (fun b c=>bv k b c)
theorem amI:ak Pg 274 36 ⟨aU,QX C0⟩:=iP aoq afX (ag Tryz.func274 (by kernel_rfl)) ab3 fun _ _=>by kernel_rfl
def aEa:SG:=[(14,iS 2),(18,iT),(20,iS 3),(22,iS 2),(24,iS 2),(29,iT),(31,iS 2),(38,iT),(40,iS 2),(46,iT),(48,iS 2),(52,iS 2),(55,iT),(60,iT)]
def aDw:TG:=[tT 0 [2,3,4],tT 1 [2,3,4,6],tT 2 [2,3,4,6,19],tT 3 [4,5],tT 4 [2,3,4,6,7],tT 5 [2,3,4,6,7,8,9],tT 6 [2,3,4,6,8,9,10,11],tT 7 [4,8,9,10,11,12],tT 8 [4,5]]
def aEo:aq:=aw Pg Tryz.f223 aDw aC
def VV (α:Type)(c d h a b e:Int)(k1:I4 (Op α)):Op α:=
 oQ α a b
 (fun g=>cK (decide (g<=e))
 (k1 c d h 9)
 (Kq α b
 (fun m=>yv α c d a m
 (fun o p=>jT α a b
 (fun q=>mO α o 1048576 q
 (fun i r=>jT α a b
 (fun s=>mO α p 1048576 s
 (fun j t=>nb α a b
 (fun w=>nb α c d
 (fun z=>BL α (w64 ((w64 (h*w))+(w64 (z*e)))) 1048576 (w64 ((w64 (g - e))*g))
 (fun l=>cK r
 (jV α true
 (fun A=>k1 i j (w64 (l+A)) 0))
 (jV α t
 (fun B=>k1 i j (w64 (l+B)) 0)))))))))))))
def IJ:f3:=sld VV
def Yz (v:f3)(α:Type)(k:RT α):I6 (Op α):=fun a b c d e g=>v α a b c d e g (fun h i j l=>bG k h i j l)
theorem aqB:ak Pg 223 76 ⟨ef,Yz IJ⟩:=iP ek6 aEo (ag Tryz.func223 (by kernel_rfl)) aEa fun _ _=>by kernel_rfl
def afE:SG:=[(10,iS 2),(15,iT),(17,iS 3),(21,iT),(26,iT),(28,iT),(33,iT),(36,iS 3),(40,iT),(48,iT),(59,iT),(64,iT),(76,iT),(81,iS 2),(83,iT)]
def aFS:TG:=[tT 0 [1,2],tT 1 [1,2,4],tT 2 [1,2,4,12],tT 3 [2,3],tT 4 [1,2,4,18],tT 5 [2,3],tT 6 [1,2,4,5],tT 7 [1,2,4,5,6],tT 8 [1,2,4,5,8],tT 9 [1,2,4,5,8,60],tT 10 [1,2,4,5,6,8],tT 11 [1,2,4,5,8],tT 12 [1,2,4,5,8,77],tT 13 [1,2,4,5,8],tT 14 [2,3]]
def R7:aq:=aw Pg Tryz.f195 aFS aC
def C3:PT St:=pS [sP 1,sP 2,sI 4,sl 12 (aV false [(cD dB)])] [au 1 (xs 3),au 2 (xs 3)]
def aDA {β:Type}(g:St->β):Int->Bool->I6 β:=C3.unc g
def aeW:PT St:=pS [sP 1,sP 2,sI 4,sl 18 (aV false [(cD dB)])] [au 1 (xs 3),au 2 (xs 3)]
def ajs {β:Type}(g:St->β):Int->Bool->I6 β:=aeW.unc g
def Bv:PT St:=pS [sP 1,sP 2,sI 4,sI 5,sP 8] [au 1 (xs 3),au 2 (xs 3),au 8 [xI,xI]]
def ah4 {β:Type}(g:St->β):I10 β:=Bv.unc g
def al2:PT St:=pS [sP 1,sP 2,sI 4,sI 5,sP 8,sl 77 (aV false [(cD dB)])] [au 1 (xs 3),au 2 (xs 3),au 8 [xI,xI]]
def adG {β:Type}(g:St->β):Int->Int->Bool->I8 β:=al2.unc g
def alT:PT St:=pS [sP 1,sP 2,sI 4,sI 5,sP 8,sl 60 (aV false [(cD dB)])] [au 1 (xs 3),au 2 (xs 3),au 8 [xI,xI]]
def aff {β:Type}(g:St->β):Int->Int->Bool->I8 β:=alT.unc g
def abM:ah:=ah.sub [1,1,1,1,1,1,0] (emb R7)
abbrev HY:Type 1:=(α:Type)->Int->Int->Int->(Int->Int->Op α)->(Bool->Int->Op α)->(Bool->Op α)->Op α
def Hz (α:Type)(b c a:Int)(k1:Int->Int->Op α)(k2:Bool->Int->Op α)(k3:Bool->Op α):Op α:=
 cK (decide (c < 0))
 (oR α a
 (fun e=>mO α e 1048576 (w64 (2*b))
 (fun d g=>cK (decide (a < 0))
 (k1 d (w64 (0 - b)))
 (k2 (decide (a < 0)) d))))
 (k3 (decide (c < 0)))
def pW:HY:=sld Hz
def L8 (v:HY)(α:Type)(K:KT α):I10 (Op α):=fun e a c d g h i j m o=>v α a c d (fun b l=>ah4 (K .normal) e a c d g h i j b l) (fun b l=>adG (K .normal) e a b c d g h i j l a) (fun b=>aff (K .normal) e a b c d g h i j m o)
theorem ahI:∀ (α:Type) (K:KT α),L8 pW α K=Bv.unc fun σ=>az Pg Ek6 afE abM K σ:=aZ (fun α K=>by kernel_rfl)
def ZS:ah:=ah.sub [1,1,0,0,1,1,0] (emb R7)
def Gi (α:Type)(b c a:Int)(k1:Bool->Op α):Op α:=
 cK (decide (b < 0))
 (jy α c a
 (fun d=>cK d
 (k1 (a != 0))
 (k1 false)))
 (k1 false)
def uQ:cg:=sld Gi
def Ob (v:cg)(α:Type)(K:KT α):Int->Bool->I6 (Op α):=fun d j a b c e g h=>v α a b c (fun i=>ajs (K .normal) d i a b c e g h)
theorem alB:∀ (α:Type) (K:KT α),Ob uQ α K=C3.unc fun σ=>az Pg Ek6 afE ZS K σ:=aZ (fun α K=>by kernel_rfl)
def JD (α:Type)(c d a:Int)(k1:I4 (Op α)):Op α:=
 oQ α c d
 (fun e=>cK (decide (e<=a))
 (k1 c d a 9)
 (uQ α c d a
 (fun g=>cK g
 (k1 c d a 14)
 (oR α c
 (fun h=>eG α (w64 ((w64 (e+h))*524288))
 (fun b=>mO α d 1048576 (w64 (2*b))
 (fun i B=>pW α b c d
 (fun j l=>eG α (w64 (e*1048576))
 (fun m=>cG α (w64 (a*1048576)) m
 (fun o=>cG α 1048576 b
 (fun p=>k1 j l (w64 ((w64 (o+3))+p)) 0))))
 (fun C q=>eG α (w64 (e*1048576))
 (fun r=>cG α (w64 (a*1048576)) r
 (fun s=>cG α 1048576 b
 (fun t=>k1 q b (w64 ((w64 (s+3))+t)) 0))))
 (fun D=>eG α (w64 (e*1048576))
 (fun w=>cG α (w64 (a*1048576)) w
 (fun z=>cG α 1048576 b
 (fun A=>k1 b i (w64 ((w64 (z+3))+A)) 0)))))))))))
def rF:kx:=sld JD
def Vm (v:kx)(α:Type)(k:RT α):Int->Int->Int->Op α:=fun a b c=>v α a b c (fun d e g h=>bG k d e g h)
def asc:ah:=(ah.put (.m [⟨C3,Ob uQ⟩]) [1,1,0,0,1,1] (ah.put (.m [⟨Bv,L8 pW⟩]) [1,1,1,1,1,1] (emb R7)))
theorem apC:ak Pg 195 94 ⟨cZ,Vm rF⟩:=iZ ek6 (ag Tryz.func195 (by kernel_rfl)) afE asc ((am _ _).trans ((am _ _).trans (aA _))) (aM (by kernel_rfl) (aM (by kernel_rfl) (aD R7) ⟨ahI,trivial⟩) ⟨alB,trivial⟩) fun _ _=>by kernel_rfl
def aHO:SG:=[(12,iS 2),(14,iS 2),(18,iT),(24,iT),(32,iS 2),(35,iT),(38,iS 2),(41,iT),(45,iT),(47,iT)]
def aGn:TG:=[tT 0 [2,3,4],tT 1 [2,3,4,6],tT 2 [2,3,4,6,7,8],tT 3 [2,3,4,7,8,9,10],tT 4 [4,5]]
def aHI:aq:=aw Pg Tryz.f219 aGn aC
def Y8 (α:Type)(a b c d e g:Int)(k1:Int->Int->Int->Op α):Op α:=
 yv α a b d e
 (fun l m=>nh α l 1048576
 (fun h o=>nh α m 1048576
 (fun i p=>nb α a b
 (fun q=>nb α d e
 (fun r=>cG α (w64 ((w64 ((w64 (q*g))+(w64 (r*c))))+(w64 (c*g)))) 1048576
 (fun j=>cK o
 (jV α true
 (fun s=>k1 h i (w64 (j+s))))
 (jV α p
 (fun t=>k1 h i (w64 (j+t))))))))))
def Jg:fS:=sld Y8
def Xv (v:fS)(α:Type)(k:RT α):I6 (Op α):=fun a b c d e g=>v α a b c d e g (fun h i j=>bG k h i j 0)
theorem auP:ak Pg 219 58 ⟨ef,Xv Jg⟩:=iP ek6 aHI (ag Tryz.func219 (by kernel_rfl)) aHO fun _ _=>by kernel_rfl
def avq:SG:=[(8,[.cpx .f64]),(16,iT),(20,iS 2),(22,iT)]
def aAk:TG:=[tT 0 [1,2],tT 1 [1,2,4,5],tT 2 [1,2,4,5,19],tT 3 [1,2,4,5],tT 4 [2,3]]
def akM:aq:=aw Pg Tryz.f165 aAk aC
def EL:PT St:=pS [sP 1,sP 2,sP 4,sI 5] [au 1 [(cD (dX .f64)),xI],au 2 (xs 3),au 4 [xI,xI]]
def ah0 {β:Type}(g:St->β):Int->Nat->Nat->I6 β:=EL.unc g
def ahH:PT St:=pS [sP 1,sP 2,sP 4,sI 5,sl 19 (aV false [(cD dB)])] [au 1 [(cD (dX .f64)),xI],au 2 (xs 3),au 4 [xI,xI]]
def acf {β:Type}(g:St->β):Int->Bool->Nat->Nat->I6 β:=ahH.unc g
def acG:ah:=ah.sub [1,1,0] (emb akM)
abbrev qs:Type 1:=(α:Type)->Int->Int->(Op α)->(Bool->Op α)->Op α
def FE (α:Type)(b c:Int)(k1:Op α)(k2:Bool->Op α):Op α:=
 cK (b == 0)
 (kU α c 0 67108864
 (fun a=>cK (!a)
 (k1)
 (k2 (!a))))
 (k2 false)
def wJ:qs:=sld FE
def Lk (v:qs)(α:Type)(K:KT α):Int->Nat->Nat->I6 (Op α):=fun b c d a e g h i j=>v α b a (ah0 (K .normal) 2 c d a e g h i j) (fun l=>acf (K .normal) b l c d a e g h i j)
theorem aj1:∀ (α:Type) (K:KT α),Lk wJ α K=EL.unc fun σ=>az Pg Ek6 avq acG K σ:=aZ (fun α K=>by kernel_rfl)
abbrev Ad:Type 1:=(α:Type)->Nat->Nat->Int->(Int->Int->Int->Op α)->Op α
def SZ (α:Type)(d e:Nat)(g:Int)(k1:Int->Int->Int->Op α):Op α:=
 BT α d e 4724276009111650304
 (fun a b c=>wJ α c g
 (k1 a b 2)
 (fun h=>k1 a b c))
def fe:Ad:=sld SZ
def kv:PT (List DV):=pA [pV true [(dX .f64),(dI .i64)]]
def S8 (v:Ad)(α:Type)(k:RT α):Nat->Nat->Int->Op α:=fun b c a=>v α b c a (fun d e g=>bG k d e a g)
def aov:ah:=(ah.put (.m [⟨EL,Lk wJ⟩]) [1,1] (emb akM))
theorem arP:ak Pg 165 25 ⟨kv,S8 fe⟩:=iZ ek6 (ag Tryz.func165 (by kernel_rfl)) avq aov ((am _ _).trans (aA _)) (aM (by kernel_rfl) (aD akM) ⟨aj1,trivial⟩) fun _ _=>by kernel_rfl
def avY:SG:=[(10,iT)]
def aHc:TG:=[tT 0 [0,1,2,6],tT 1 [0,1,2,6,11],tT 2 [0,6],tT 3 [0,6]]
def aB1:aq:=aw Pg Tryz.f191 aHc aC
def Rm (α:Type)(a b c:Int)(k1:Nat->Nat->Int->Int->Op α):Op α:=
 cK (a != 0)
 (k1 0 0 0 a)
 (Ce α b c
 (fun d e g h=>dV α
 (k1 d e g h)))
def yR:rf:=sld Rm
def qI:PT (List DV):=pA [pV false [(dMr [(dI .i64),(dI .i64),(dI .i64),(dI .i64),(dI .i64),(dI .i64),(dI .i64),dL,(dI .i64),(dI .i64)] 0)],vI,vI]
def W9 (v:rf)(α:Type)(k:RT α):Int->Int->Int->Int->Int->Int->Int->ae->I4 (Op α):=fun a b c d e g h i j l m o=>v α a m o (fun p q r s=>cO k p q r s b c d e g h i j l)
theorem arg:ak Pg 191 20 ⟨qI,W9 yR⟩:=iP ek6 aB1 (ag Tryz.func191 (by kernel_rfl)) avY fun _ _=>by kernel_rfl
def aCS:TG:=[tT 0 [0,1,2,6],tT 1 [0,1,2,6,11],tT 2 [0,6],tT 3 [0,6]]
def aFl:aq:=aw Pg Tryz.f160 aCS aC
def TK (α:Type)(a b c:Int)(k1:Nat->Nat->Int->Int->Op α):Op α:=
 cK (a != 0)
 (k1 0 0 0 a)
 (mu α b c
 (fun d e g h=>dV α
 (k1 d e g h)))
def pd:rf:=sld TK
def Qr (v:rf)(α:Type)(k:RT α):Int->Int->Int->Int->Int->Int->Int->ae->I4 (Op α):=fun a b c d e g h i j l m o=>v α a m o (fun p q r s=>cO k p q r s b c d e g h i j l)
theorem apY:ak Pg 160 21 ⟨qI,Qr pd⟩:=iP ek6 aFl (ag Tryz.func160 (by kernel_rfl)) avY fun _ _=>by kernel_rfl
def aFK:SG:=[(7,[.int .i64,.int .i64,.int .i64,.int .i64,.int .i64,.int .i64,.sl,.int .i64,.int .i64]),(11,[.int .i64,.int .i64,.int .i64,.int .i64,.int .i64,.int .i64,.sl,.int .i64,.int .i64])]
def aCk:TG:=[tT 0 [1],tT 1 [1,5],tT 2 [2,3]]
def aAg:aq:=aw Pg Tryz.f127 aCk aC
def ZY:PT (List RV):=pRs [pR false [rJ [(dI .i64),(dI .i64),(dI .i64),(dI .i64),(dI .i64),(dI .i64),(dI .i64),dL,(dI .i64),(dI .i64)] 0],wI]
def ZV {β:Type}(g:List RV->β):Int->Int->Int->Int->Int->Int->Int->ae->Int->Int->Int->β:=ZY.unc g
abbrev P5:Type 1:=(α:Type)->Int->Int->Int->Int->Int->Int->ae->Int->Int->(Int->Op α)->Op α
def UW (α:Type)(a b c d e g:Int)(h:ae)(i j:Int)(k1:Int->Op α):Op α:=
 Fu α a b c d e g h i j
 (fun m l=>k1 l)
def JB:P5:=sld UW
def Ru (v:P5)(α:Type)(k:RT α):Int->Int->Int->Int->Int->Int->ae->Int->Int->Op α:=fun a b c d e g h i j=>v α a b c d e g h i j (fun l=>ZV k 0 a b c d e g h i j l)
theorem aoK:ak Pg 127 15 ⟨eV,Ru JB⟩:=iP ek6 aAg (ag Tryz.func127 (by kernel_rfl)) aFK fun _ _=>by kernel_rfl
def aJn:SG:=[(10,[.sl]),(19,[.sl,.sl,.int .i64,.int .i64]),(21,[.sl]),(22,iS 9),(23,iS 9),(25,[.sl]),(26,iS 9),(27,iS 9)]
def aJA:TG:=[tT 0 [1],tT 1 [1,4,5],tT 2 [1,4,5,15],tT 3 [2,3],tT 4 [7],tT 5 [2,3]]
def aJg:aq:=aw Pg Tryz.f70 aJA aC
def Pf (α:Type)(a c:ae)(d e:Int)(k1:Int->Int->Op α):Op α:=
 H2 α a
 (fun g b=>cK (b != 0)
 (k1 g b)
 (dT a 0 [.int .i64,.int .i64,.int .i64,.int .i64,.int .i64,.int .i64,.int .i64,.int .i64,.int .i64]
 (fun q h i r s t w z A=>dT a 0 [.int .i64,.int .i64,.int .i64,.int .i64,.int .i64,.int .i64,.int .i64,.int .i64,.int .i64]
 (fun B C D j l m o F G=>Fy α
 (G7 α
 (Fu α i j l h m o c d e
 (fun H p=>k1 0 p)))))))
def B4:Ka:=sld Pf
def ahR (v:Ka)(α:Type)(k:RT α):ae->ae->Int->Int->Op α:=fun a b c d=>v α a b c d (fun e g=>fw k e g)
theorem azW:ak Pg 70 34 ⟨kZ,ahR B4⟩:=iP ek6 aJg (ag Tryz.func70 (by kernel_rfl)) aJn fun _ _=>by kernel_rfl
def aCu:SG:=[(24,iS 3),(27,iS 3),(34,iS 3),(38,iS 3),(45,iS 3),(46,iS 3),(49,iS 12)]
def aAd:TG:=[tT 0 [0,4,5,6],tT 1 [0,4,5,6,7],tT 2 [0,4,5,6,7,8],tT 3 [0,4,5,6,7,8,13],tT 5 [0,4,5,6,7,8,9],tT 6 [0,4,5,6,7,8,9,17],tT 8 [0,4,5,6,7,8,9,10],tT 9 [0,4,5,6,7,8,9,10,11],tT 10 [0,4,5,6,7,8,9],tT 7 [0,4,5,6,7,8,9],tT 4 [0,4,5,6,7,8],tT 11 [0,6]]
def aF3:TG:=[tT 3 [0,4,5,6,7,8],tT 6 [0,4,5,6,7,8,9]]
def Rt:aq:=aw Pg Tryz.f263 aAd aF3
def aIz:OT:=tdC (ah.sub [1,1,0,1,0] (emb Rt))
def aGK:OT:=tdC (ah.sub [1,1,0,1,0,0,1,0,0,1,0] (emb Rt))
def aax:PT (List RV):=pRs [pR true [rD (dI .i64),rD (dI .i64),rD (dI .i64),rD (dI .i64),rD (dI .i64),rD (dI .i64),rD (dI .i64),rD (dI .i64),rD (dI .i64),rD (dI .i64),rD (dI .i64),rD (dI .i64)],pR true [rD (dI .i64)]]
def FS {β:Type}(g:List RV->β):I13 β:=aax.unc g
abbrev Qz:Type 1:=(α:Type)->Int->Int->Int->Int->Int->Int->Int->Int->Int->Int->Int->Int->Int->Int->Int->Int->Int->Int->Int->Int->Int->Int->Int->Int->Int->(I13 (Op α))->Op α
def VO (α:Type)(G a b c d e g h i j l m o p q r s t w z A B C D F:Int)(k1:I13 (Op α)):Op α:=
 cj α G a b c p q r
 (fun H I J L=>cj α L d e g z A B
 (fun M N O P=>eH α P H I J M N O
 (fun Q R T U=>cj α U a b c s t w
 (fun V W X Y=>cj α Y d e g C D F
 (fun Z a0 a1 a2=>eH α a2 V W X Z a0 a1
 (fun a3 a4 a5 a6=>cj α a6 h i j p q r
 (fun a7 a8 a9 b0=>cj α b0 l m o z A B
 (fun b1 b2 b3 b4=>eH α b4 a7 a8 a9 b1 b2 b3
 (fun b5 b6 b7 b8=>cj α b8 h i j s t w
 (fun b9 c0 c1 c2=>cj α c2 l m o C D F
 (fun c3 c4 c5 c6=>eH α c6 b9 c0 c1 c3 c4 c5
 (fun c7 c8 c9 d0=>k1 Q R T a3 a4 a5 b5 b6 b7 c7 c8 c9 d0))))))))))))
def xg:Qz:=sld VO
def VQ:PT (List DV):=pA [pV false [(dMr [(dI .i64)] 0)],pV true [(dI .i64),(dI .i64),(dI .i64),(dI .i64),(dI .i64),(dI .i64),(dI .i64),(dI .i64),(dI .i64),(dI .i64),(dI .i64),(dI .i64)],pV true [(dI .i64),(dI .i64),(dI .i64),(dI .i64),(dI .i64),(dI .i64),(dI .i64),(dI .i64),(dI .i64),(dI .i64),(dI .i64),(dI .i64)]]
def Zt (v:Qz)(α:Type)(k:RT α):I25 (Op α):=fun a b c d e g h i j l m o p q r s t w z A B C D F G=>v α a b c d e g h i j l m o p q r s t w z A B C D F G (fun H I J L M N O P Q R T U V=>FS k H I J L M N O P Q R T U V)
def at9:ah:=(ah.put (.u 3) [1,1,0,1,0] (ah.put (.u 3) [1,1,0,1,0,0,1,0,0,1,0] (emb Rt)))
theorem ame:ak Pg 263 50 ⟨VQ,Zt xg⟩:=iZ ek6 (ag Tryz.func263 (by kernel_rfl)) aCu at9 ((am _ _).trans ((am _ _).trans (aA _))) (GB (by decide) (GB (by decide) (aD Rt))) fun _ _=>by kernel_rfl
def aBQ:SG:=[(14,iS 3),(21,iS 3),(26,iS 3),(27,iS 3),(30,iS 3),(31,iS 3),(33,iS 3),(34,iS 3),(35,iS 3),(36,iS 3)]
def aG0:TG:=[tT 0 [0,4,5,6],tT 1 [0,4,5,6,7],tT 2 [0,4,6,7,8],tT 3 [0,4,6,7,8,9],tT 4 [0,6,7,9,10],tT 5 [0,6]]
def aHe:aq:=aw Pg Tryz.f264 aG0 aC
abbrev UO:Type 1:=(α:Type)->Int->Int->Int->Int->Int->Int->Int->(I13 (Op α))->Op α
def RY (α:Type)(p a b c d e g:Int)(k1:I13 (Op α)):Op α:=
 mF α
 (eH α p 1048576 0 0 d e g
 (fun q r s t=>yE α
 (cj α t q r s 524288 0 0
 (fun h i j w=>mF α
 (mV α w 1048576 0 0 d e g
 (fun z A B C=>yE α
 (cj α C z A B 524288 0 0
 (fun l m o D=>kO α D l m o a b c
 (fun F G H I=>cj α I l m o a b c
 (fun J L M N=>k1 h i j F G H J L M h i j N))))))))))
def yl:UO:=sld RY
def TY (v:UO)(α:Type)(k:RT α):I7 (Op α):=fun a b c d e g h=>v α a b c d e g h (fun i j l m o p q r s t w z A=>FS k i j l m o p q r s t w z A)
theorem anD:ak Pg 264 38 ⟨ia,TY yl⟩:=iP ek6 aHe (ag Tryz.func264 (by kernel_rfl)) aBQ fun _ _=>by kernel_rfl
def avR:SG:=[(11,iT),(17,iT),(20,iT),(25,iS 2),(33,iT),(38,iS 2),(50,iS 3),(52,iS 2)]
def aGX:TG:=[tT 0 [0,3,4],tT 1 [0,3,4,12],tT 2 [0,4],tT 3 [0,3,4,5],tT 4 [0,3,4,5,22],tT 5 [0,3,4,5],tT 6 [0,3,4,5,34],tT 7 [0,4],tT 8 [0,4,5,6,7],tT 9 [0,4,5,6,7,43],tT 10 [0,4],tT 11 [0,4],tT 12 [0,4]]
def aiT:aq:=aw Pg Tryz.f279 aGX aC
def De:PT St:=pSv [(0,500000000,0)] [sl 0 (aV false [(cE 500000000 0)]),sP 3,sP 4,sP 5] [au 500000000 [xI],au 3 (xs 4),au 4 (xs 3),au 5 (xs 3)]
def ajm {β:Type}(g:St->β):I11 β:=De.unc g
def aii:PT St:=pSv [(0,500000000,0)] [sl 0 (aV false [(cE 500000000 0)]),sP 3,sP 4,sP 5,sl 22 (aV false [(cD dB)])] [au 500000000 [xI],au 3 (xs 4),au 4 (xs 3),au 5 (xs 3)]
def ahm {β:Type}(g:St->β):Bool->I11 β:=aii.unc g
def abp:ah:=ah.sub [1,1,1,0] (emb aiT)
abbrev FL:Type 1:=(α:Type)->Int->Int->Int->(I4 (Op α))->(Bool->Op α)->Op α
def FT (α:Type)(c a b:Int)(k1:I4 (Op α))(k2:Bool->Op α):Op α:=
 cK (decide ((w64 (b - a)) < 1048576))
 (xo α a b
 (fun d e g h=>du α c d e g h
 (fun i j l m=>k1 m i j l)))
 (k2 (decide ((w64 (b - a)) < 1048576)))
def w9:FL:=sld FT
def NE (v:FL)(α:Type)(K:KT α):I11 (Op α):=fun d a b e g h i j l m o=>v α d a b (fun c p q r=>ajm (K .normal) c a b e g h i j p q r) (fun c=>ahm (K .normal) c d a b e g h i j l m o)
theorem akE:∀ (α:Type) (K:KT α),NE w9 α K=De.unc fun σ=>az Pg Ek6 avR abp K σ:=aZ (fun α K=>by kernel_rfl)
def Q5 (α:Type)(a h i c d:Int)(k1:I4 (Op α)):Op α:=
 cK (a != 0)
 (k1 0 0 0 a)
 (w9 α a h i
 (fun b j l m=>cK (b != 0)
 (k1 0 0 0 b)
 (r8 α c d
 (fun o p e=>cK (e != 0)
 (k1 0 0 0 e)
 (g7 α o p
 (fun q r s t=>du α b q r s t
 (fun w z A B=>cj α B j l m w z A
 (fun C D F G=>k1 C D F G)))))))
 (fun X=>cK (a != 0)
 (k1 0 0 0 a)
 (r8 α c d
 (fun H I g=>cK (g != 0)
 (k1 0 0 0 g)
 (g7 α H I
 (fun J L M N=>du α a J L M N
 (fun O P Q R=>cj α R 0 0 1048576 O P Q
 (fun T U V W=>k1 T U V W))))))))
def xl:zG:=sld Q5
def Qv:PT (List DV):=pA [pV false [(dMr [(dI .i64)] 0)],pV true [(dI .i64),(dI .i64),(dI .i64),(dI .i64)]]
def Wn (v:zG)(α:Type)(k:RT α):I5 (Op α):=fun a b c d e=>v α a b c d e (fun g h i j=>ei k g h i j)
def as3:ah:=(ah.put (.m [⟨De,NE w9⟩]) [1,1,1] (emb aiT))
theorem ans:ak Pg 279 58 ⟨Qv,Wn xl⟩:=iZ ek6 (ag Tryz.func279 (by kernel_rfl)) avR as3 ((am _ _).trans (aA _)) (aM (by kernel_rfl) (aD aiT) ⟨akE,trivial⟩) fun _ _=>by kernel_rfl
def aBn:SG:=[(9,[.int .i64,.int .i64,.int .i64,.int .i64,.int .i64,.int .i64,.sl,.int .i64,.int .i64]),(15,iT),(20,iT),(29,iT),(35,iT),(38,iS 3),(40,iS 3),(43,iT)]
def aGp:TG:=[tT 0 [0,2,4,6],tT 1 [0,6,7],tT 2 [0,6,7,8],tT 3 [0,6,7,8,37],tT 4 [0,6],tT 5 [0,6]]
def aAX:aq:=aw Pg Tryz.f242 aGp aC
abbrev RW:Type 1:=(α:Type)->Int->Int->ae->Int->Int->Int->(I4 (Op α))->Op α
def S4 (α:Type)(g h:Int)(i:ae)(j l m:Int)(k1:I4 (Op α)):Op α:=
 sG α h i j l m
 (fun o p Q R e=>dD α (w64 (o*1048576)) 10000
 (fun q=>cn α (w64 (p*1048576)) 10000
 (fun r=>g7 α q r
 (fun s t w z=>du α g s t w z
 (fun b c d a=>cK (e == 0)
 (k1 b c d a)
 (cK (a != 0)
 (k1 b c d a)
 (yJ α e 10000
 (fun A B C D=>du α a A B C D
 (fun F G H I=>sr α F G 1
 (fun J L=>eH α I b c d J L H
 (fun M N O P=>k1 M N O P)))))))))))
def xQ:RW:=sld S4
def hP:PT (List DV):=pA [pV false [(dMr [(dI .i64)] 0)],pV true [(dI .i64),(dI .i64),(dI .i64),(dI .i64),(dI .i64),(dI .i64),dL,(dI .i64),(dI .i64)],vI]
def V6 (v:RW)(α:Type)(k:RT α):Int->Int->Int->Int->Int->Int->Int->ae->Int->Int->Int->Op α:=fun a b m o p q r c d e g=>v α a b c d e g (fun h i j l=>ei k h i j l)
theorem ats:ak Pg 242 50 ⟨hP,V6 xQ⟩:=iP ek6 aAX (ag Tryz.func242 (by kernel_rfl)) aBn fun _ _=>by kernel_rfl
def aAI:SG:=[(8,[.cpx .f64,.int .i64]),(16,iS 3),(19,iT),(21,iT),(25,iT),(27,iT)]
def aA8:TG:=[tT 0 [1,2],tT 1 [2,4,5],tT 2 [2,4,5,13],tT 3 [2,3],tT 4 [2,6],tT 5 [2,3]]
def aDt:aq:=aw Pg Tryz.f132 aA8 aC
noncomputable abbrev Lk7:List bC:=⟨165,25,[⟨kv,S8 fe⟩]⟩::⟨219,58,[⟨ef,Xv Jg⟩]⟩::⟨223,76,[⟨ef,Yz IJ⟩]⟩::⟨242,50,[⟨hP,V6 xQ⟩]⟩::⟨195,94,[⟨cZ,Vm rF⟩]⟩::⟨279,58,[⟨Qv,Wn xl⟩]⟩::⟨264,38,[⟨ia,TY yl⟩]⟩::⟨263,50,[⟨VQ,Zt xg⟩]⟩::⟨160,21,[⟨qI,Qr pd⟩]⟩::⟨191,20,[⟨qI,W9 yR⟩]⟩::⟨127,15,[⟨eV,Ru JB⟩]⟩::⟨70,34,[⟨kZ,ahR B4⟩]⟩::Lk6
theorem ak7:bH Lk7 fun c=>bH c.l (ak Pg c.f c.nt):=⟨⟨arP,trivial⟩,⟨auP,trivial⟩,⟨aqB,trivial⟩,⟨ats,trivial⟩,⟨apC,trivial⟩,⟨ans,trivial⟩,⟨anD,trivial⟩,⟨ame,trivial⟩,⟨apY,trivial⟩,⟨arg,trivial⟩,⟨aoK,trivial⟩,⟨azW,trivial⟩,ak6⟩
def Ek7:aF:=aF.ofIO Lk7 bu io0
theorem ek7:Ek7.Ok Pg:=aF.ofIO_ok aN ak7
def Xu (α:Type)(e g:Nat)(a:Int)(k1:Int->Int->Int->Op α):Op α:=
 fe α e g a
 (fun h i b=>cK (b != 0)
 (k1 0 0 b)
 (H5 α h i a
 (fun c d=>gT α (w64 (c*c)) 1048576
 (fun j=>cG α (w64 (d*d)) 1048576
 (fun l=>k1 j l 0)))))
def r9:Ad:=sld Xu
def Tl (v:Ad)(α:Type)(k:RT α):Nat->Nat->Int->Op α:=fun a b c=>v α a b c (fun d e g=>jk k d e g)
theorem amB:ak Pg 132 31 ⟨kv,Tl r9⟩:=iP ek7 aDt (ag Tryz.func132 (by kernel_rfl)) aAI fun _ _=>by kernel_rfl
def avm:SG:=[(21,iT),(27,iT),(50,iS 3)]
def aBg:TG:=[tT 0 [0,1,4],tT 1 [0,1,4,6],tT 2 [0,1,4,6,7],tT 3 [0,1,4,6,7,8],tT 4 [0,1,4,6,8,10],tT 5 [0,1,4,12],tT 6 [4,12,48],tT 7 [4,12],tT 8 [4,5]]
def aeQ:aq:=aw Pg Tryz.f254 aBg aC
def Cx:PT St:=pS [sI 0,sI 1,sP 4,sP 12] [au 4 [(cD (dX .f64)),xI],au 12 (xs 3)]
def aHa {β:Type}(g:St->β):Int->Int->Nat->Nat->I4 β:=Cx.unc g
def ack:PT St:=pS [sP 4,sP 12] [au 4 [(cD (dX .f64)),xI],au 12 (xs 3)]
def adm {β:Type}(g:St->β):Nat->Nat->I4 β:=ack.unc g
def afk:PT St:=pS [sP 4,sP 12,sl 48 (aV false [(cD dB)])] [au 4 [(cD (dX .f64)),xI],au 12 (xs 3)]
def ah8 {β:Type}(g:St->β):Bool->Nat->Nat->I4 β:=afk.unc g
def aeF:aF:=aF.ofIO (⟨274,36,[⟨aU,QX C0⟩]⟩::Lk7) bu io0
theorem atA:aeF.Ok Pg:=aF.ofIO_ok aN ⟨⟨amI,trivial⟩,ak7⟩
def abg:ah:=ah.sub [1,1,1,1,1,1,0] (emb aeQ)
def HP (α:Type)(a b:Int)(k1:Op α)(k2:Bool->Op α):Op α:=
 cK (a == b)
 (cK ((Int.tmod a 1048576) == 0)
 (k1)
 (k2 ((Int.tmod a 1048576) == 0)))
 (k2 false)
def uo:qs:=sld HP
def N8 (v:qs)(α:Type)(K:KT α):Int->Int->Nat->Nat->I4 (Op α):=fun g h a b c d e i=>v α g h (adm (K .normal) a b c d e 0) (fun j=>ah8 (K .normal) j a b c d e i)
theorem afK:∀ (α:Type) (K:KT α),N8 uo α K=Cx.unc fun σ=>az Pg aeF avm abg K σ:=aZ (fun α K=>by kernel_rfl)
def Zm (α:Type)(b a:Int)(k1:Nat->Nat->Int->Int->Op α):Op α:=
 gT α (w64 (b+a)) 2
 (fun c=>C0 α c
 (fun g h=>nh α g 64
 (fun d t=>nh α h 64
 (fun e w=>cG α (w64 (11*(w64 (a - c)))) 7
 (fun i=>uo α b a
 (gn α d e 0
 (fun j l m o=>k1 j l m o))
 (fun z=>gn α d e (w64 (2+i))
 (fun p q r s=>k1 p q r s)))))))
def C1:fX:=sld Zm
def RG (v:fX)(α:Type)(k:RT α):Int->Int->Op α:=fun a b=>v α a b (fun c d e g=>bE k c d e g)
def am3:ah:=(ah.put (.m [⟨Cx,N8 uo⟩]) [1,1,1,1,1,1] (emb aeQ))
theorem an7:ak Pg 254 54 ⟨bt,RG C1⟩:=iZ atA (ag Tryz.func254 (by kernel_rfl)) avm am3 ((am _ _).trans (aA _)) (aM (by kernel_rfl) (aD aeQ) ⟨afK,trivial⟩) fun _ _=>by kernel_rfl
def Tz:SG:=[(7,iS 3),(8,iS 3)]
def aIa:TG:=[tT 0 [1,2,3,4],tT 1 [4,5]]
def XH:aq:=aw Pg Tryz.f257 aIa aC
def RK (α:Type)(a b c d e g:Int)(k1:Int->Int->Int->Op α):Op α:=
 Kz α d e g a b c
 (fun h i j=>k1 h i j)
def Iu:fS:=sld RK
def Qx:PT (List DV):=pA [pV true [(dI .i64),(dI .i64),(dI .i64)],pV false [(dP [(dFn 217 [])] 0)],pV false [(dP [(dI .i64),(dI .i64),(dI .i64)] 0)]]
def TP (v:fS)(α:Type)(k:RT α):I6 (Op α):=fun a b c d e g=>v α a b c d e g (fun h i j=>bG k h i j 0)
theorem au2:ak Pg 257 12 ⟨Qx,TP Iu⟩:=iP ek7 XH (ag Tryz.func257 (by kernel_rfl)) Tz fun _ _=>by kernel_rfl
def Ty (α:Type)(a b c d e g:Int)(k1:Int->Int->Int->Op α):Op α:=
 Jg α d e g a b c
 (fun h i j=>k1 h i j)
def Io:fS:=sld Ty
def Q3:PT (List DV):=pA [pV true [(dI .i64),(dI .i64),(dI .i64)],pV false [(dP [(dFn 219 [])] 0)],pV false [(dP [(dI .i64),(dI .i64),(dI .i64)] 0)]]
def X7 (v:fS)(α:Type)(k:RT α):I6 (Op α):=fun a b c d e g=>v α a b c d e g (fun h i j=>bG k h i j 0)
theorem apc:ak Pg 257 12 ⟨Q3,X7 Io⟩:=iP ek7 XH (ag Tryz.func257 (by kernel_rfl)) Tz fun _ _=>by kernel_rfl
def QK (α:Type)(a b c d e g:Int)(k1:Int->Int->Int->Op α):Op α:=
 IT α d e g a b c
 (fun h i j=>k1 h i j)
def Je:fS:=sld QK
def X4:PT (List DV):=pA [pV true [(dI .i64),(dI .i64),(dI .i64)],pV false [(dP [(dFn 227 [])] 0)],pV false [(dP [(dI .i64),(dI .i64),(dI .i64)] 0)]]
def QN (v:fS)(α:Type)(k:RT α):I6 (Op α):=fun a b c d e g=>v α a b c d e g (fun h i j=>bG k h i j 0)
theorem an4:ak Pg 257 12 ⟨X4,QN Je⟩:=iP ek7 XH (ag Tryz.func257 (by kernel_rfl)) Tz fun _ _=>by kernel_rfl
def UM (α:Type)(a b c d e g:Int)(k1:I4 (Op α)):Op α:=
 IJ α d e g a b c
 (fun h i j l=>k1 h i j l)
def IG:f3:=sld UM
def XP:PT (List DV):=pA [pV true [(dI .i64),(dI .i64),(dI .i64)],pV false [(dP [(dFn 223 [])] 0)],pV false [(dP [(dI .i64),(dI .i64),(dI .i64)] 0)]]
def Ym (v:f3)(α:Type)(k:RT α):I6 (Op α):=fun a b c d e g=>v α a b c d e g (fun h i j l=>bG k h i j l)
theorem atN:ak Pg 257 12 ⟨XP,Ym IG⟩:=iP ek7 XH (ag Tryz.func257 (by kernel_rfl)) Tz fun _ _=>by kernel_rfl
def aHQ:SG:=[(8,[.cpx .f64,.int .i64]),(20,iT),(25,iT)]
def aHV:TG:=[tT 0 [1,2],tT 1 [2,4,5],tT 2 [2,4,5,13],tT 3 [2,3],tT 4 [2,4,6],tT 5 [2,3]]
def aGU:aq:=aw Pg Tryz.f158 aHV aC
def Z7:PT (List RV):=pRs [pR true [rD (dI .i64),rD (dI .i64),rD (dI .i64),rD (dI .i64)],wI]
def aai {β:Type}(g:List RV->β):I5 β:=Z7.unc g
abbrev R3:Type 1:=(α:Type)->Nat->Nat->Int->(I5 (Op α))->Op α
def RX (α:Type)(c d:Nat)(a:Int)(k1:I5 (Op α)):Op α:=
 fe α c d a
 (fun e g b=>cK (b != 0)
 (k1 0 0 0 0 b)
 (Dh α e a
 (fun h i=>Dh α g a
 (fun j l=>k1 h i j l 0))))
def Bh:R3:=sld RX
def Wj (v:R3)(α:Type)(k:RT α):Nat->Nat->Int->Op α:=fun a b c=>v α a b c (fun d e g h i=>aai k d e g h i)
theorem apq:ak Pg 158 28 ⟨kv,Wj Bh⟩:=iP ek7 aGU (ag Tryz.func158 (by kernel_rfl)) aHQ fun _ _=>by kernel_rfl
def aHD:SG:=[(13,[.int .i64,.int .i64,.int .i64,.int .i64,.int .i64,.int .i64,.sl,.int .i64,.int .i64]),(17,[.int .i64,.int .i64,.int .i64,.int .i64,.int .i64,.int .i64,.sl,.int .i64,.int .i64]),(20,iS 3),(21,iS 3),(24,iS 3),(25,iS 3),(27,iS 3),(29,iS 3),(30,iS 3)]
def aAe:TG:=[tT 0 [0,2,4,6,7],tT 1 [0,6,7,8,9],tT 2 [0,6,7,9,10],tT 3 [0,6,7,10,11],tT 4 [0,6,7]]
def aAO:aq:=aw Pg Tryz.f207 aAe aC
def aaJ:PT (List RV):=pRs [pR true [rD (dI .i64),rD (dI .i64),rD (dI .i64)],pR true [rD (dI .i64),rD (dI .i64),rD (dI .i64)],pR true [rD (dI .i64)]]
def abv {β:Type}(g:List RV->β):I7 β:=aaJ.unc g
abbrev T5:Type 1:=(α:Type)->Int->Int->Int->Int->ae->Int->Int->Int->(I7 (Op α))->Op α
def QU (α:Type)(m a o p:Int)(q:ae)(r s t:Int)(k1:I7 (Op α)):Op α:=
 xQ α m a q r s t
 (fun b c d w=>CW α w a o p
 (fun e g h z=>cj α z b c d b c d
 (fun i j l A=>cj α A e g h e g h
 (fun B C D F=>mV α F i j l B C D
 (fun G H I J=>k1 i j l G H I J)))))
def EW:T5:=sld QU
def Uo (v:T5)(α:Type)(k:RT α):Int->Int->Int->Int->Int->Int->Int->ae->Int->Int->Int->Op α:=fun a b c d s t w e g h i=>v α a b c d e g h i (fun j l m o p q r=>abv k j l m o p q r)
theorem aqU:ak Pg 207 32 ⟨hP,Uo EW⟩:=iP ek7 aAO (ag Tryz.func207 (by kernel_rfl)) aHD fun _ _=>by kernel_rfl
def aEz:SG:=[(5,iS 2),(12,iT),(14,iT)]
def aF0:TG:=[tT 0 [1,2],tT 1 [1,2,4],tT 2 [1,2,4,8],tT 3 [2,3],tT 4 [2,3]]
def aES:aq:=aw Pg Tryz.f214 aF0 aC
noncomputable abbrev Lk8:List bC:=⟨254,54,[⟨bt,RG C1⟩]⟩::⟨257,12,[⟨Qx,TP Iu⟩]⟩::⟨158,28,[⟨kv,Wj Bh⟩]⟩::⟨207,32,[⟨hP,Uo EW⟩]⟩::⟨132,31,[⟨kv,Tl r9⟩]⟩::Lk7
theorem ak8:bH Lk8 fun c=>bH c.l (ak Pg c.f c.nt):=⟨⟨an7,trivial⟩,⟨au2,trivial⟩,⟨apq,trivial⟩,⟨aqU,trivial⟩,⟨amB,trivial⟩,ak7⟩
def Ek8:aF:=aF.ofIO Lk8 bu io0
theorem ek8:Ek8.Ok Pg:=aF.ofIO_ok aN ak8
def Qw (α:Type)(a b:Int)(k1:Nat->Nat->Int->Int->Op α):Op α:=
 xz α a b (-1099511627776)
 (fun c=>cK (c != 0)
 (k1 0 0 0 c)
 (C1 α a b
 (fun d e g h=>k1 d e g h)))
def xR:fX:=sld Qw
def YT (v:fX)(α:Type)(k:RT α):Int->Int->Op α:=fun a b=>v α a b (fun c d e g=>bE k c d e g)
theorem ary:ak Pg 214 18 ⟨ba,YT xR⟩:=iP ek8 aES (ag Tryz.func214 (by kernel_rfl)) aEz fun _ _=>by kernel_rfl
def HE:SG:=[(9,[.cpx .f64,.int .i64]),(19,iS 3),(27,iS 3)]
def aFG:TG:=[tT 0 [1,2,4],tT 1 [1,4,6,7],tT 2 [1,4,6,7,14],tT 3 [4,5],tT 4 [4,6,7],tT 5 [4,6,7,24],tT 6 [4,5],tT 7 [4,5]]
def F4:aq:=aw Pg Tryz.f194 aFG aC
abbrev zQ:Type 1:=(α:Type)->Nat->Nat->Int->Int->(Nat->Nat->Int->Int->Op α)->Op α
def WU (α:Type)(d e:Nat)(a g:Int)(k1:Nat->Nat->Int->Int->Op α):Op α:=
 fe α d e a
 (fun h i b=>cK (b != 0)
 (k1 0 0 0 b)
 (K4 α h i g
 (fun j l c=>cK (c != 0)
 (k1 0 0 0 c)
 (gn α j l a
 (fun m o p q=>k1 m o p q)))))
def Ie:zQ:=sld WU
def Yh:PT (List DV):=pA [pV true [(dX .f64),(dI .i64)],pV false [(dFn 230 [(dP [(dI .i64)] 0)])]]
def UB (v:zQ)(α:Type)(k:RT α):Nat->Nat->Int->Int->Op α:=fun a b c d=>v α a b c d (fun e g h i=>bE k e g h i)
theorem anX:ak Pg 194 31 ⟨Yh,UB Ie⟩:=iP ek8 F4 (ag Tryz.func194 (by kernel_rfl)) HE fun _ _=>by kernel_rfl
abbrev kz:Type 1:=(α:Type)->Nat->Nat->Int->Int->Int->Int->(Nat->Nat->Int->Int->Op α)->Op α
def QC (α:Type)(c d:Nat)(a e g h:Int)(k1:Nat->Nat->Int->Int->Op α):Op α:=
 fe α c d a
 (fun i j b=>cK (b != 0)
 (k1 0 0 0 b)
 (Iu α i j a e g h
 (fun l m o=>gn α l m o
 (fun p q r s=>k1 p q r s))))
def JT:kz:=sld QC
def WY:PT (List DV):=pA [pV true [(dX .f64),(dI .i64)],pV false [(dFn 257 [(dP [(dFn 217 [])] 0),(dP [(dI .i64),(dI .i64),(dI .i64)] 0)])]]
def Vq (v:kz)(α:Type)(k:RT α):Nat->Nat->I4 (Op α):=fun a b c d e g=>v α a b c d e g (fun h i j l=>bE k h i j l)
theorem asO:ak Pg 194 31 ⟨WY,Vq JT⟩:=iP ek8 F4 (ag Tryz.func194 (by kernel_rfl)) HE fun _ _=>by kernel_rfl
def ax0:aF:=aF.ofIO (⟨257,12,[⟨Q3,X7 Io⟩]⟩::Lk8) bu io0
theorem aqs:ax0.Ok Pg:=aF.ofIO_ok aN ⟨⟨apc,trivial⟩,ak8⟩
def T1 (α:Type)(c d:Nat)(a e g h:Int)(k1:Nat->Nat->Int->Int->Op α):Op α:=
 fe α c d a
 (fun i j b=>cK (b != 0)
 (k1 0 0 0 b)
 (Io α i j a e g h
 (fun l m o=>gn α l m o
 (fun p q r s=>k1 p q r s))))
def Ke:kz:=sld T1
def X8:PT (List DV):=pA [pV true [(dX .f64),(dI .i64)],pV false [(dFn 257 [(dP [(dFn 219 [])] 0),(dP [(dI .i64),(dI .i64),(dI .i64)] 0)])]]
def SA (v:kz)(α:Type)(k:RT α):Nat->Nat->I4 (Op α):=fun a b c d e g=>v α a b c d e g (fun h i j l=>bE k h i j l)
theorem asi:ak Pg 194 31 ⟨X8,SA Ke⟩:=iP aqs F4 (ag Tryz.func194 (by kernel_rfl)) HE fun _ _=>by kernel_rfl
def axR:aF:=aF.ofIO (⟨257,12,[⟨X4,QN Je⟩]⟩::Lk8) bu io0
theorem ar8:axR.Ok Pg:=aF.ofIO_ok aN ⟨⟨an4,trivial⟩,ak8⟩
def Xk (α:Type)(c d:Nat)(a e g h:Int)(k1:Nat->Nat->Int->Int->Op α):Op α:=
 fe α c d a
 (fun i j b=>cK (b != 0)
 (k1 0 0 0 b)
 (Je α i j a e g h
 (fun l m o=>gn α l m o
 (fun p q r s=>k1 p q r s))))
def J6:kz:=sld Xk
def Vy:PT (List DV):=pA [pV true [(dX .f64),(dI .i64)],pV false [(dFn 257 [(dP [(dFn 227 [])] 0),(dP [(dI .i64),(dI .i64),(dI .i64)] 0)])]]
def Tx (v:kz)(α:Type)(k:RT α):Nat->Nat->I4 (Op α):=fun a b c d e g=>v α a b c d e g (fun h i j l=>bE k h i j l)
theorem asH:ak Pg 194 31 ⟨Vy,Tx J6⟩:=iP ar8 F4 (ag Tryz.func194 (by kernel_rfl)) HE fun _ _=>by kernel_rfl
abbrev AO:Type 1:=(α:Type)->Nat->Nat->Int->(Nat->Nat->Int->Int->Op α)->Op α
def SY (α:Type)(d e:Nat)(a:Int)(k1:Nat->Nat->Int->Int->Op α):Op α:=
 fe α d e a
 (fun g h b=>cK (b != 0)
 (k1 0 0 0 b)
 (rF α g h a
 (fun i j l c=>cK (c != 0)
 (k1 0 0 0 c)
 (gn α i j l
 (fun m o p q=>k1 m o p q)))))
def IC:AO:=sld SY
def VB:PT (List DV):=pA [pV true [(dX .f64),(dI .i64)],pV false [(dFn 195 [])]]
def RP (v:AO)(α:Type)(k:RT α):Nat->Nat->Int->Op α:=fun a b c=>v α a b c (fun d e g h=>bE k d e g h)
theorem ase:ak Pg 194 31 ⟨VB,RP IC⟩:=iP ek8 F4 (ag Tryz.func194 (by kernel_rfl)) HE fun _ _=>by kernel_rfl
def axL:aF:=aF.ofIO (⟨257,12,[⟨XP,Ym IG⟩]⟩::Lk8) bu io0
theorem auw:axL.Ok Pg:=aF.ofIO_ok aN ⟨⟨atN,trivial⟩,ak8⟩
def Sv (α:Type)(d e:Nat)(a g h i:Int)(k1:Nat->Nat->Int->Int->Op α):Op α:=
 fe α d e a
 (fun j l b=>cK (b != 0)
 (k1 0 0 0 b)
 (IG α j l a g h i
 (fun m o p c=>cK (c != 0)
 (k1 0 0 0 c)
 (gn α m o p
 (fun q r s t=>k1 q r s t)))))
def Lb:kz:=sld Sv
def Yf:PT (List DV):=pA [pV true [(dX .f64),(dI .i64)],pV false [(dFn 257 [(dP [(dFn 223 [])] 0),(dP [(dI .i64),(dI .i64),(dI .i64)] 0)])]]
def YX (v:kz)(α:Type)(k:RT α):Nat->Nat->I4 (Op α):=fun a b c d e g=>v α a b c d e g (fun h i j l=>bE k h i j l)
theorem aq7:ak Pg 194 31 ⟨Yf,YX Lb⟩:=iP auw F4 (ag Tryz.func194 (by kernel_rfl)) HE fun _ _=>by kernel_rfl
def aFI:SG:=[(9,iT),(14,[.cpx .f64,.int .i64]),(20,iS 4)]
def aH3:TG:=[tT 0 [0,3,4],tT 1 [0,3,4,10],tT 2 [0,4],tT 3 [0,3,4,5],tT 4 [0,4,5],tT 5 [0,4]]
def aDg:aq:=aw Pg Tryz.f129 aH3 aC
def aah:PT (List RV):=pRs [pR true [rD (dI .i64),rD (dI .i64),rD (dI .i64),rD (dI .i64)],pR true [rD (dI .i64),rD (dI .i64),rD (dI .i64),rD (dI .i64),rD (dI .i64),rD (dI .i64),rD (dI .i64),rD dL,rD (dI .i64),rD (dI .i64)]]
def HM {β:Type}(g:List RV->β):Int->Int->Int->Int->Int->Int->Int->Int->Int->Int->Int->ae->Int->Int->β:=aah.unc g
abbrev XZ:Type 1:=(α:Type)->Int->Nat->Nat->Int->(I5 (Op α))->Op α
def Xs (α:Type)(a:Int)(b c:Nat)(d:Int)(k1:I5 (Op α)):Op α:=
 cK (a != 0)
 (k1 0 0 0 0 a)
 (Bh α b c d
 (fun e g h i j=>k1 e g h i j))
def oW:XZ:=sld Xs
def Uz:PT (List DV):=pA [pV false [(dMr [(dI .i64),(dI .i64),(dI .i64),(dI .i64),(dI .i64),(dI .i64),(dI .i64),dL,(dI .i64),(dI .i64)] 0)],pV true [(dX .f64),(dI .i64)]]
def Sy (v:XZ)(α:Type)(k:RT α):Int->Int->Int->Int->Int->Int->Int->ae->Int->Int->Nat->Nat->Int->Op α:=fun a b c d e g h i j l m o p=>v α a m o p (fun q r s t w=>HM k q r s t w b c d e g h i j l)
theorem at1:ak Pg 129 21 ⟨Uz,Sy oW⟩:=iP ek8 aDg (ag Tryz.func129 (by kernel_rfl)) aFI fun _ _=>by kernel_rfl
def aHr:SG:=[(4,[.cpx .f64,.int .i64])]
def aHl:TG:=[tT 0 [1,2],tT 1 [2,3]]
def aDO:aq:=aw Pg Tryz.f163 aHl aC
noncomputable abbrev Lk9:List bC:=⟨194,31,[⟨VB,RP IC⟩]⟩::⟨129,21,[⟨Uz,Sy oW⟩]⟩::⟨214,18,[⟨ba,YT xR⟩]⟩::Lk8
theorem ak9:bH Lk9 fun c=>bH c.l (ak Pg c.f c.nt):=⟨⟨ase,trivial⟩,⟨at1,trivial⟩,⟨ary,trivial⟩,ak8⟩
def Ek9:aF:=aF.ofIO Lk9 bu io0
theorem ek9:Ek9.Ok Pg:=aF.ofIO_ok aN ak9
def QJ (α:Type)(a b:Nat)(c:Int)(k1:Nat->Nat->Int->Int->Op α):Op α:=
 IC α a b c
 (fun d e g h=>k1 d e g h)
def yz:AO:=sld QJ
def RE (v:AO)(α:Type)(k:RT α):Nat->Nat->Int->Op α:=fun a b c=>v α a b c (fun d e g h=>bE k d e g h)
theorem atn:ak Pg 163 8 ⟨kv,RE yz⟩:=iP ek9 aDO (ag Tryz.func163 (by kernel_rfl)) aHr fun _ _=>by kernel_rfl
def aEj:SG:=[(6,[.cpx .f64,.int .i64])]
def aD0:TG:=[tT 0 [2,3,4],tT 1 [4,5]]
def aAm:aq:=aw Pg Tryz.f192 aD0 aC
def axo:aF:=aF.ofIO (⟨194,31,[⟨Yh,UB Ie⟩]⟩::Lk9) bu io0
theorem aqd:axo.Ok Pg:=aF.ofIO_ok aN ⟨⟨anX,trivial⟩,ak9⟩
def V1 (α:Type)(a b:Nat)(c d:Int)(k1:Nat->Nat->Int->Int->Op α):Op α:=
 Ie α a b c d
 (fun e g h i=>k1 e g h i)
def rI:zQ:=sld V1
def U8:PT (List DV):=pA [pV true [(dX .f64),(dI .i64)],vI]
def Y5 (v:zQ)(α:Type)(k:RT α):Nat->Nat->Int->Int->Op α:=fun a b c d=>v α a b c d (fun e g h i=>bE k e g h i)
theorem au7:ak Pg 192 11 ⟨U8,Y5 rI⟩:=iP aqd aAm (ag Tryz.func192 (by kernel_rfl)) aEj fun _ _=>by kernel_rfl
def aEN:SG:=[(14,[.int .i64,.int .i64,.int .i64,.int .i64,.int .i64,.int .i64,.sl,.int .i64,.int .i64]),(22,iT),(26,[.int .i64,.int .i64,.int .i64,.int .i64,.int .i64,.int .i64,.sl,.int .i64,.int .i64]),(32,iS 3),(37,iS 3),(38,iS 3),(42,iS 2),(47,iS 3),(49,iT)]
def aHi:TG:=[tT 0 [0,2,4,6,7],tT 1 [0,2,4,6,7,9,10],tT 2 [0,2,4,6,7,9,10,23],tT 3 [0,6,7,8],tT 4 [0,6,7,9,10,30],tT 5 [0,6,7,8],tT 6 [0,6,7,9,11],tT 7 [0,6,7,8]]
def aIg:aq:=aw Pg Tryz.f173 aHi aC
def abn:PT (List RV):=pRs [pR true [rD (dI .i64),rD (dI .i64),rD (dI .i64)],pR true [rD (dI .i64),rD (dI .i64),rD (dI .i64)],pR false [rD dB],pR true [rD (dI .i64)]]
def aaH {β:Type}(g:List RV->β):Int->Int->Int->Int->Int->Int->Bool->Int->β:=abn.unc g
abbrev XA:Type 1:=(α:Type)->Int->Int->Int->Int->ae->Int->Int->Int->(Int->Int->Int->Int->Int->Int->Bool->Int->Op α)->Op α
def Wm (α:Type)(q b r s:Int)(c:ae)(d e g:Int)(k1:Int->Int->Int->Int->Int->Int->Bool->Int->Op α):Op α:=
 EW α q b r s c d e g
 (fun h i j l m o a=>cK (a != 0)
 (k1 0 0 0 0 0 0 false a)
 (sG α b c d e g
 (fun R T U V t=>cK (t != 0)
 (xp α l m o
 (fun w z A B=>du α a w z A B
 (fun C D F G=>k1 C D F h i j false G)))
 (pH α l m o
 (fun p H W X=>xr α p H
 (fun I J L M=>du α a I J L M
 (fun N O P Q=>k1 N O P h i j (decide (p < 0)) Q)))))))
def o3:XA:=sld Wm
def Xg (v:XA)(α:Type)(k:RT α):Int->Int->Int->Int->Int->Int->Int->ae->Int->Int->Int->Op α:=fun a b c d t w z e g h i=>v α a b c d e g h i (fun j l m o p q r s=>aaH k j l m o p q r s)
theorem asG:ak Pg 173 51 ⟨hP,Xg o3⟩:=iP ek9 aIg (ag Tryz.func173 (by kernel_rfl)) aEN fun _ _=>by kernel_rfl
def Qf:SG:=[(11,[.cpx .f64,.int .i64]),(19,[.cpx .f64,.int .i64])]
def aEJ:TG:=[tT 0 [3,4,5,6],tT 1 [4,5,6,8,9],tT 2 [4,5,6,8,9,16],tT 3 [6,7],tT 4 [6,7]]
def Uc:aq:=aw Pg Tryz.f216 aEJ aC
def awj:aF:=aF.ofIO (⟨194,31,[⟨WY,Vq JT⟩]⟩::Lk9) bu io0
theorem asF:awj.Ok Pg:=aF.ofIO_ok aN ⟨⟨asO,trivial⟩,ak9⟩
abbrev ed:Type 1:=(α:Type)->Nat->Nat->Int->Nat->Nat->Int->(Nat->Nat->Int->Int->Op α)->Op α
def Yk (α:Type)(c d:Nat)(a:Int)(e g:Nat)(h:Int)(k1:Nat->Nat->Int->Int->Op α):Op α:=
 fe α c d a
 (fun i j b=>cK (b != 0)
 (k1 0 0 0 b)
 (JT α e g h i j a
 (fun l m o p=>k1 l m o p)))
def Kt:ed:=sld Yk
def TO:PT (List DV):=pA [pV true [(dX .f64),(dI .i64)],pV true [(dX .f64),(dI .i64)],pV false [(dFn 217 [])]]
def Vo (v:ed)(α:Type)(k:RT α):Nat->Nat->Int->Nat->Nat->Int->Op α:=fun a b c d e g=>v α a b c d e g (fun h i j l=>bE k h i j l)
theorem auO:ak Pg 216 24 ⟨TO,Vo Kt⟩:=iP asF Uc (ag Tryz.func216 (by kernel_rfl)) Qf fun _ _=>by kernel_rfl
def ayK:aF:=aF.ofIO (⟨194,31,[⟨X8,SA Ke⟩]⟩::Lk9) bu io0
theorem at2:ayK.Ok Pg:=aF.ofIO_ok aN ⟨⟨asi,trivial⟩,ak9⟩
def Zf (α:Type)(c d:Nat)(a:Int)(e g:Nat)(h:Int)(k1:Nat->Nat->Int->Int->Op α):Op α:=
 fe α c d a
 (fun i j b=>cK (b != 0)
 (k1 0 0 0 b)
 (Ke α e g h i j a
 (fun l m o p=>k1 l m o p)))
def JO:ed:=sld Zf
def V5:PT (List DV):=pA [pV true [(dX .f64),(dI .i64)],pV true [(dX .f64),(dI .i64)],pV false [(dFn 219 [])]]
def WS (v:ed)(α:Type)(k:RT α):Nat->Nat->Int->Nat->Nat->Int->Op α:=fun a b c d e g=>v α a b c d e g (fun h i j l=>bE k h i j l)
theorem ari:ak Pg 216 24 ⟨V5,WS JO⟩:=iP at2 Uc (ag Tryz.func216 (by kernel_rfl)) Qf fun _ _=>by kernel_rfl
def awz:aF:=aF.ofIO (⟨194,31,[⟨Vy,Tx J6⟩]⟩::Lk9) bu io0
theorem apE:awz.Ok Pg:=aF.ofIO_ok aN ⟨⟨asH,trivial⟩,ak9⟩
def Tb (α:Type)(c d:Nat)(a:Int)(e g:Nat)(h:Int)(k1:Nat->Nat->Int->Int->Op α):Op α:=
 fe α c d a
 (fun i j b=>cK (b != 0)
 (k1 0 0 0 b)
 (J6 α e g h i j a
 (fun l m o p=>k1 l m o p)))
def Jw:ed:=sld Tb
def U3:PT (List DV):=pA [pV true [(dX .f64),(dI .i64)],pV true [(dX .f64),(dI .i64)],pV false [(dFn 227 [])]]
def Wk (v:ed)(α:Type)(k:RT α):Nat->Nat->Int->Nat->Nat->Int->Op α:=fun a b c d e g=>v α a b c d e g (fun h i j l=>bE k h i j l)
theorem arh:ak Pg 216 24 ⟨U3,Wk Jw⟩:=iP apE Uc (ag Tryz.func216 (by kernel_rfl)) Qf fun _ _=>by kernel_rfl
def axu:aF:=aF.ofIO (⟨194,31,[⟨Yf,YX Lb⟩]⟩::Lk9) bu io0
theorem apD:axu.Ok Pg:=aF.ofIO_ok aN ⟨⟨aq7,trivial⟩,ak9⟩
def Qb (α:Type)(c d:Nat)(a:Int)(e g:Nat)(h:Int)(k1:Nat->Nat->Int->Int->Op α):Op α:=
 fe α c d a
 (fun i j b=>cK (b != 0)
 (k1 0 0 0 b)
 (Lb α e g h i j a
 (fun l m o p=>k1 l m o p)))
def J3:ed:=sld Qb
def RA:PT (List DV):=pA [pV true [(dX .f64),(dI .i64)],pV true [(dX .f64),(dI .i64)],pV false [(dFn 223 [])]]
def Vg (v:ed)(α:Type)(k:RT α):Nat->Nat->Int->Nat->Nat->Int->Op α:=fun a b c d e g=>v α a b c d e g (fun h i j l=>bE k h i j l)
theorem auq:ak Pg 216 24 ⟨RA,Vg J3⟩:=iP apD Uc (ag Tryz.func216 (by kernel_rfl)) Qf fun _ _=>by kernel_rfl
def au9:SG:=[(9,iS 2),(19,iT),(22,iT),(26,iT),(35,iT),(39,iT),(42,iT),(52,[.cpx .f64,.int .i64])]
def aBZ:TG:=[tT 0 [1,2],tT 1 [1,2,5],tT 2 [1,2,5,14],tT 3 [2,3],tT 4 [1,2,17],tT 5 [2,3],tT 6 [1,2,33],tT 7 [2,6,7],tT 8 [2,6,7,49],tT 9 [2,3],tT 10 [2,3],tT 11 [2,3]]
def av7:aq:=aw Pg Tryz.f164 aBZ aC
def XU (α:Type)(a b:Int)(k1:Nat->Nat->Int->Int->Op α):Op α:=
 mu α a b
 (fun l m o c=>cK (c != 0)
 (k1 0 0 0 c)
 (cK (decide (0<=a))
 (eG α (w64 (a*1048576))
 (fun d=>p7 α (w64 (b*1048576))
 (fun e=>mu α d e
 (fun g h i j=>k1 g h i j))))
 (cK (decide (b<=0))
 (none)
 (k1 0 0 0 14))))
def Bd:fX:=sld XU
def Yy (v:fX)(α:Type)(k:RT α):Int->Int->Op α:=fun a b=>v α a b (fun c d e g=>bE k c d e g)
theorem atS:ak Pg 164 57 ⟨ba,Yy Bd⟩:=iP ek9 av7 (ag Tryz.func164 (by kernel_rfl)) au9 fun _ _=>by kernel_rfl
noncomputable abbrev abm:List bC:=⟨164,57,[⟨ba,Yy Bd⟩]⟩::⟨192,11,[⟨U8,Y5 rI⟩]⟩::⟨216,24,[⟨U3,Wk Jw⟩]⟩::⟨173,51,[⟨hP,Xg o3⟩]⟩::⟨163,8,[⟨kv,RE yz⟩]⟩::Lk9
theorem afl:bH abm fun c=>bH c.l (ak Pg c.f c.nt):=⟨⟨atS,trivial⟩,⟨au7,trivial⟩,⟨arh,trivial⟩,⟨asG,trivial⟩,⟨atn,trivial⟩,ak9⟩
def P0:aF:=aF.ofIO abm bu io0
theorem amQ:P0.Ok Pg:=aF.ofIO_ok aN afl
def XK (α:Type)(a b:Int)(k1:Nat->Nat->Int->Int->Op α):Op α:=
 mu α a b
 (fun w z A c=>cK (c != 0)
 (k1 0 0 0 c)
 (cK (decide (0<=a))
 (eG α (w64 (a*1048576))
 (fun e=>p7 α (w64 (b*1048576))
 (fun g=>mu α e g
 (fun h i j l=>k1 h i j l))))
 (cK (decide (b<=0))
 (Bd α (w64 (0 - b)) (w64 (0 - a))
 (fun m o p d=>cK (d != 0)
 (k1 0 0 0 d)
 (rI α m o p 1
 (fun q r s t=>k1 q r s t))))
 (k1 0 0 0 14))))
def xx:fX:=sld XK
def Tu (v:fX)(α:Type)(k:RT α):Int->Int->Op α:=fun a b=>v α a b (fun c d e g=>bE k c d e g)
theorem aoU:ak Pg 164 57 ⟨ba,Tu xx⟩:=iP amQ av7 (ag Tryz.func164 (by kernel_rfl)) au9 fun _ _=>by kernel_rfl
def Xb:SG:=[(6,[.cpx .f64,.int .i64]),(7,[.cpx .f64,.int .i64])]
def aEX:TG:=[tT 0 [2,3,4],tT 1 [4,5]]
def aDs:aq:=aw Pg Tryz.f189 aEX aC
def WP (α:Type)(a b:Nat)(c:Int)(d e:Nat)(g:Int)(k1:Nat->Nat->Int->Int->Op α):Op α:=
 Jw α a b c d e g
 (fun h i j l=>k1 h i j l)
def Ek:ed:=sld WP
def kg:PT (List DV):=pA [pV true [(dX .f64),(dI .i64)],pV true [(dX .f64),(dI .i64)]]
def Ul (v:ed)(α:Type)(k:RT α):Nat->Nat->Int->Nat->Nat->Int->Op α:=fun a b c d e g=>v α a b c d e g (fun h i j l=>bE k h i j l)
theorem atO:ak Pg 189 11 ⟨kg,Ul Ek⟩:=iP amQ aDs (ag Tryz.func189 (by kernel_rfl)) Xb fun _ _=>by kernel_rfl
end
end Go.AM.K
