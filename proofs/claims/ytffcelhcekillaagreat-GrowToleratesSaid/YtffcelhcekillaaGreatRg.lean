/- Printed by KGen. -/
import Derived.Test.YtffcelhcekillaaGreatRf
namespace Go.AM.K
open Go.Proofs
set_option maxRecDepth 100000
set_option linter.unusedVariables false
noncomputable section
def awf:SG:=[(20,[.cpx .f64,.int .i64]),(26,[.sl]),(29,iS 5),(30,iS 5),(35,iT),(41,iS 4),(46,iS 2),(50,iT),(54,iT),(61,iT),(64,iT),(68,iT),(75,iT),(80,iS 4)]
def aGK:TG:=[tT 0 [0,1,4],tT 1 [0,1,4,5,6],tT 2 [0,1,4,6,7],tT 3 [0,4,6,7,8],tT 5 [0,4,6,7,8,33],tT 6 [0,4,7,8,37],tT 7 [0,4,7,8],tT 4 [0,4,7,8],tT 8 [0,4,7,8,41,42],tT 9 [0,4,7,8,41,42,43],tT 10 [0,4,7,8,9,10,41,42],tT 11 [0,4,7,8,9,10,41,42],tT 12 [0,4,7,8,41,42],tT 13 [0,4,7,8,41,42],tT 14 [0,4]]
def aEd:TG:=[tT 9 [0,4,7,8,41,42]]
def QZ:aq:=aw Pg Tryz.f213 aGK aEd
def aCH:OT:=tdC (ag.sub [1,1,1,1,1,0,1,0] (emb QZ))
def DA:PT St:=pSv [(0,500000000,0)] [sl 0 (aV false [(cB 500000000 0)]),sP 4,sl 6 (aV false [(cD dB)]),sP 7,sP 8] [au 500000000 [xI,xI,xI,xI,xI,xI,xI,(cD dL),xI,xI],au 4 (xs 4),au 7 (xs 4),au 8 (xs 5)]
def aDj {β:Type}(g:St->β):Bool->Int->Int->Int->Int->Int->Int->Int->ae->I15 β:=DA.unc g
def ai1:PT St:=pSv [(0,500000000,0)] [sl 0 (aV false [(cB 500000000 0)]),sP 4,sl 6 (aV false [(cD dB)]),sP 7,sP 8,sl 33 (aV false [(cD dB)])] [au 500000000 [xI,xI,xI,xI,xI,xI,xI,(cD dL),xI,xI],au 4 (xs 4),au 7 (xs 4),au 8 (xs 5)]
def af6 {β:Type}(g:St->β):Bool->Bool->Int->Int->Int->Int->Int->Int->Int->ae->I15 β:=ai1.unc g
def afn:PT St:=pSv [(0,500000000,0)] [sl 0 (aV false [(cB 500000000 0)]),sP 4,sP 7,sP 8] [au 500000000 [xI,xI,xI,xI,xI,xI,xI,(cD dL),xI,xI],au 4 (xs 4),au 7 (xs 4),au 8 (xs 5)]
def adR {β:Type}(g:St->β):Int->Int->Int->Int->Int->Int->Int->ae->I15 β:=afn.unc g
noncomputable abbrev axi:List bA:=⟨131,111,[⟨hP,ZF ss⟩]⟩::⟨170,16,[⟨eV,Sz JP⟩]⟩::⟨171,16,[⟨eV,Ty Da⟩]⟩::⟨184,55,[⟨ib,Wf yu⟩]⟩::amU
theorem aBK:bG axi fun c=>bG c.l (ak Pg c.f c.nt):=⟨⟨anI,trivial⟩,⟨aqQ,trivial⟩,⟨asc,trivial⟩,⟨am3,trivial⟩,azG⟩
def azw:aE:=aE.ofIO axi bt io0
theorem axq:azw.Ok Pg:=aE.ofIO_ok aN aBK
def aff:ag:=ag.sub [1,1,1,1,0] (emb QZ)
abbrev Fo:Type 1:=(α:Type)->Bool->Int->Int->Int->Int->Int->(Bool->Op α)->(I4 (Op α))->Op α
def G5 (α:Type)(b:Bool)(c d e g a:Int)(k1:Bool->Op α)(k2:I4 (Op α)):Op α:=
 cK (a != 0)
 (k1 (a != 0))
 (cK b
 (k2 0 0 e g)
 (k2 c d 0 0))
def s9:Fo:=sld G5
def Ou (v:Fo)(α:Type)(K:KT α):Bool->Int->Int->Int->Int->Int->Int->Int->ae->I15 (Op α):=fun c d e g h i j l m o p q r s t w z A B C D F G a=>v α c w z A B a (fun b=>af6 (K .normal) c b d e g h i j l m o p q r s t w z A B C D F G a) (fun b H I J=>adR (K .normal) d e g h i j l m o p q r s t b H I J C D F G a)
theorem ai7:∀ (α:Type) (K:KT α),Ou s9 α K=DA.unc fun σ=>az Pg azw awf aff K σ:=aZ (fun α K=>by kernel_rfl)
def R0 (α:Type)(o p q r a b:Int)(e:ae)(s t g:Int)(k1:I5 (Op α)):Op α:=
 ss α o p q r e s t g
 (fun w z A B C=>nH α C w z A
 (fun h i j l m=>dG e (w64 (g - 1)) [.int .i64,.int .i64,.int .i64,.int .i64,.int .i64]
 (fun a1 a2 c d D=>s9 α B h i j l D
 (fun a3=>ml α h i
 (fun F G=>jJ α (w64 ((w64 (4*F))*c)) b
 (fun H=>nd α (w64 ((w64 (4*G))*d)) a
 (fun I=>ml α j l
 (fun J L=>jJ α (w64 ((w64 (4*J))*c)) b
 (fun M=>nd α (w64 ((w64 (4*L))*d)) a
 (fun N=>k1 H I M N m)))))))
 (fun O P Q R=>ml α O P
 (fun T U=>jJ α (w64 ((w64 (4*T))*c)) b
 (fun V=>nd α (w64 ((w64 (4*U))*d)) a
 (fun W=>ml α Q R
 (fun X Y=>jJ α (w64 ((w64 (4*X))*c)) b
 (fun Z=>nd α (w64 ((w64 (4*Y))*d)) a
 (fun a0=>k1 V W Z a0 m))))))))))
def Dg:Am:=sld R0
def Sm (v:Am)(α:Type)(k:RT α):Int->Int->Int->Int->Int->Int->Int->ae->Int->Int->Int->Op α:=fun j a b c l d e g h i m=>v α j a b c d e g h i m (fun o p q r s=>Hm k o p q r s a b c l d e g h i)
def asU:ag:=(ag.put (.m [⟨DA,Ou s9⟩]) [1,1,1,1] (ag.put (.u 3) [1,1,1,1,1,0,1,0] (emb QZ)))
theorem apu:ak Pg 213 81 ⟨hP,Sm Dg⟩:=iZ axq (ah Tryz.func213 (by kernel_rfl)) awf asU ((an _ _).trans ((an _ _).trans (aA _))) (aM (by kernel_rfl) (GV (by decide) (aD QZ)) ⟨ai7,trivial⟩) fun _ _=>by kernel_rfl
def aBa:SG:=[(18,iT),(20,[.cpx .f64,.int .i64]),(30,[.cpx .f64,.int .i64]),(31,[.cpx .f64,.int .i64]),(33,[.cpx .f64,.int .i64])]
def aH5:TG:=[tT 0 [0,1,4],tT 1 [0,1,4,5],tT 2 [0,1,4,5,19],tT 3 [0,4],tT 4 [0,4,5,7],tT 5 [0,4]]
def aFH:aq:=aw Pg Tryz.f130 aH5 aC
abbrev QM:Type 1:=(α:Type)->Int->Int->Int->Int->Int->ae->Int->Int->Int->(Nat->Nat->Int->Int->Op α)->Op α
def ZI (α:Type)(p a q r s:Int)(b:ae)(c d e:Int)(k1:Nat->Nat->Int->Int->Op α):Op α:=
 ss α p a q r b c d e
 (fun g h i H j=>cK (s == 0)
 (k1 g h i j)
 (xH α j a b c d e
 (fun l m o t=>cO α t l m o l m o
 (fun w z A B=>pu α B w z A g h i
 (fun C D F G=>k1 C D F G)))))
def jX:QM:=sld ZI
def TD (v:QM)(α:Type)(k:RT α):Int->Int->Int->Int->Int->Int->Int->ae->Int->Int->Int->Op α:=fun i a b c d j l e g h m=>v α i a b c d e g h m (fun o p q r=>cH k o p q r a b c d j l e g h)
theorem arR:ak Pg 130 35 ⟨hP,TD jX⟩:=iP axq aFH (ah Tryz.func130 (by kernel_rfl)) aBa fun _ _=>by kernel_rfl
def av1:SG:=[(20,[.int .i64,.int .i64,.int .i64,.int .i64,.int .i64,.int .i64,.sl,.int .i64,.int .i64]),(26,iS 6),(29,[.int .i64,.int .i64,.int .i64,.int .i64,.int .i64,.int .i64,.sl,.int .i64,.int .i64]),(35,iS 6),(40,[.int .i64,.int .i64,.int .i64,.int .i64,.int .i64,.int .i64,.sl,.int .i64,.int .i64]),(43,[.int .i64,.int .i64,.int .i64,.int .i64,.int .i64,.int .i64,.sl,.int .i64,.int .i64]),(45,[.sl]),(51,[.int .i64,.int .i64,.int .i64,.int .i64,.int .i64,.int .i64,.sl,.int .i64,.int .i64]),(53,[.sl]),(60,iS 3),(63,iS 3),(68,iT),(70,iS 6),(71,iS 3),(73,iS 3),(77,iT),(79,iT),(82,iT),(85,iT),(87,iT),(90,iT),(98,[.int .i64,.int .i64,.int .i64,.int .i64,.int .i64,.int .i64,.sl,.int .i64,.int .i64]),(101,iS 2),(103,iS 2),(106,iS 6)]
def aEf:TG:=[tT 0 [1,2],tT 1 [1,2,4],tT 2 [1,2,4,5,6],tT 3 [1,2,4,5,6,25],tT 4 [2,3],tT 5 [1,2,4,5,6,7],tT 6 [1,2,4,5,6,7,34],tT 7 [2,3],tT 8 [1,2,4,5,7,8],tT 9 [1,2,4,5,7,8,9,10],tT 10 [1,2,4,5,7,9,10,13],tT 11 [1,2,4,5,7,13,14,15],tT 12 [1,2,4,5,7,13,14,15,69],tT 13 [2,3],tT 14 [1,2,5,13,14,15,16],tT 15 [1,2,13,17],tT 16 [1,2,17,95],tT 17 [1,2,17],tT 18 [2,17,99],tT 19 [2,17],tT 20 [2,3]]
def afh:aq:=aw Pg Tryz.f152 aEf aC
def Bh:PT St:=pS [sP 1,sP 2,sl 13 (aV false [(cD dB)]),sP 17] [au 1 [xI,xI,xI,xI,xI,xI,(cD dL),xI,xI],au 2 (xs 6),au 17 (xs 6)]
def aEP {β:Type}(g:St->β):Bool->Int->Int->Int->Int->Int->Int->ae->I14 β:=Bh.unc g
def aeL:PT St:=pS [sP 1,sP 2,sP 17] [au 1 [xI,xI,xI,xI,xI,xI,(cD dL),xI,xI],au 2 (xs 6),au 17 (xs 6)]
def afd {β:Type}(g:St->β):Int->Int->Int->Int->Int->Int->ae->I14 β:=aeL.unc g
def adw:PT St:=pS [sP 1,sP 2,sP 17,sl 95 (aV false [(cD dB)])] [au 1 [xI,xI,xI,xI,xI,xI,(cD dL),xI,xI],au 2 (xs 6),au 17 (xs 6)]
def afC {β:Type}(g:St->β):Bool->Int->Int->Int->Int->Int->Int->ae->I14 β:=adw.unc g
def ab4:PT (List RV):=pRs [pR true [rD (dI .i64),rD (dI .i64),rD (dI .i64),rD (dI .i64),rD (dI .i64),rD (dI .i64)],wI]
def GW {β:Type}(g:List RV->β):I7 β:=ab4.unc g
def aa3:ag:=ag.sub [1,1,1,1,1,1,1,1,1,1,1,1,1,0] (emb afh)
abbrev bV:Type 1:=(α:Type)->Bool->(Op α)->(Op α)->Op α
def G8 (α:Type)(a:Bool)(k1:Op α)(k2:Op α):Op α:=
 cK a
 (k1)
 (k2)
def oY:bV:=sld G8
def Mz (v:bV)(α:Type)(K:KT α):Bool->Int->Int->Int->Int->Int->Int->ae->I14 (Op α):=fun a b c d e g h i j l m o p q r s t w B C z A=>v α a (afd (K .normal) b c d e g h i j l m o p q r s t w 0 0 z A) (afC (K .normal) a b c d e g h i j l m o p q r s t w B C z A)
theorem ahV:∀ (α:Type) (K:KT α),Mz oY α K=Bh.unc fun σ=>az Pg azw av1 aa3 K σ:=aZ (fun α K=>by kernel_rfl)
abbrev A3:Type 1:=(α:Type)->Int->Int->Int->Int->Int->Int->ae->Int->Int->(I7 (Op α))->Op α
def Rn (α:Type)(e g h j o p:Int)(a:ae)(i b:Int)(k1:I7 (Op α)):Op α:=
 JP α e g h j o p a i b
 (fun t w z q=>cK (q != 0)
 (k1 0 0 0 0 0 0 q)
 (Da α e g h j o p a i b
 (fun A B C r=>cK (r != 0)
 (k1 0 0 0 0 0 0 r)
 (jr α 0 e g h j a i b 0
 (fun D F G H=>jr α H e g h j a i b (w64 (((List.length a:Nat):Int)+1))
 (fun I J L M=>ou α M e g h a i b (w64 (((List.length a:Nat):Int)+1))
 (fun a6 a7 a8 a9 b0 b1 N b2=>o4 α D F G
 (fun s O b3 b4=>o4 α I J L
 (fun P Q b5 b6=>su α P Q
 (fun R T=>cK (decide (s<=0))
 (k1 0 0 0 0 0 0 9)
 (yq α A B C
 (fun U V=>yq α t w z
 (fun W X=>yo α W X
 (fun c d=>dz α (w64 (R*U)) O
 (fun Y=>cq α (w64 (T*V)) s
 (fun Z=>yo α Y Z
 (fun l m=>oY α N
 (nQ α a b
 (fun a0=>cK a0
 (nG α c d 0 0
 (fun a1 a2=>k1 c d 0 0 a1 a2 0))
 (k1 c d 0 0 0 0 0)))
 (nQ α a b
 (fun a3=>cK a3
 (nG α c d l m
 (fun a4 a5=>k1 c d l m a4 a5 0))
 (k1 c d l m 0 0 0))))))))))))))))))))
def BU:A3:=sld Rn
def S1 (v:A3)(α:Type)(k:RT α):Int->Int->Int->Int->Int->Int->ae->Int->Int->Op α:=fun a b c d e g h i j=>v α a b c d e g h i j (fun l m o p q r s=>GW k l m o p q r s)
def arZ:ag:=(ag.put (.m [⟨Bh,Mz oY⟩]) [1,1,1,1,1,1,1,1,1,1,1,1,1] (emb afh))
theorem aoD:ak Pg 152 107 ⟨eV,S1 BU⟩:=iZ axq (ah Tryz.func152 (by kernel_rfl)) av1 arZ ((an _ _).trans (aA _)) (aM (by kernel_rfl) (aD afh) ⟨ahV,trivial⟩) fun _ _=>by kernel_rfl
def avO:SG:=[(22,iT),(28,iT),(37,iT),(43,iT),(46,iT),(53,iS 2),(62,iT),(68,iS 2),(79,iT),(85,[.cpx .f64,.int .i64]),(90,iT),(92,iT)]
def aEw:TG:=[tT 0 [0,1,2,6],tT 1 [0,2,6,7],tT 2 [0,2,6,7,14],tT 3 [0,2,6,7,14,15],tT 4 [0,2,6,7,8,14],tT 5 [0,2,6,7,14],tT 6 [0,2,6,7,14],tT 7 [0,6,7,38],tT 8 [0,6],tT 9 [0,6,7,9],tT 10 [0,6,7,9,48],tT 11 [0,6,7,9],tT 12 [0,6,7,9,63],tT 13 [0,6],tT 14 [0,6,7,9,10],tT 15 [0,6,9,10],tT 16 [0,6,9,10,80],tT 17 [0,6],tT 18 [0,6]]
def aF0:TG:=[tT 3 [0,2,6,7,14]]
def TC:aq:=aw Pg Tryz.f182 aEw aF0
def aIC:OT:=tdC (ag.sub [1,1,0,1,0] (emb TC))
def DM:PT St:=pSv [(0,500000000,0)] [sl 0 (aV false [(cB 500000000 0)]),sP 6,sP 7,sP 9] [au 500000000 [xI,xI,xI,xI,xI,xI,xI,(cD dL),xI,xI],au 6 [(cD (dX .f64)),xI],au 7 (xs 4),au 9 [(cD (dX .f64)),xI]]
def aj2 {β:Type}(g:St->β):Int->Int->Int->Int->Int->Int->Int->ae->Int->Int->Nat->Nat->Int->Int->Int->Int->Int->Nat->Nat->Int->β:=DM.unc g
def agW:PT St:=pSv [(0,500000000,0)] [sl 0 (aV false [(cB 500000000 0)]),sP 6,sP 7,sP 9,sl 48 (aV false [(cD dB)])] [au 500000000 [xI,xI,xI,xI,xI,xI,xI,(cD dL),xI,xI],au 6 [(cD (dX .f64)),xI],au 7 (xs 4),au 9 [(cD (dX .f64)),xI]]
def aii {β:Type}(g:St->β):Bool->Int->Int->Int->Int->Int->Int->Int->ae->Int->Int->Nat->Nat->Int->Int->Int->Int->Int->Nat->Nat->Int->β:=agW.unc g
noncomputable abbrev ay4:List bA:=⟨213,81,[⟨hP,Sm Dg⟩]⟩::⟨152,107,[⟨eV,S1 BU⟩]⟩::⟨130,35,[⟨hP,TD jX⟩]⟩::axi
theorem aC7:bG ay4 fun c=>bG c.l (ak Pg c.f c.nt):=⟨⟨apu,trivial⟩,⟨aoD,trivial⟩,⟨arR,trivial⟩,aBK⟩
def aA5:aE:=aE.ofIO ay4 bt io0
theorem aBj:aA5.Ok Pg:=aE.ofIO_ok aN aC7
def aa9:ag:=ag.sub [1,1,1,1,1,0] (emb TC)
abbrev HC:Type 1:=(α:Type)->Int->Int->(Int->Nat->Nat->Int->Op α)->(Bool->Op α)->Op α
def He (α:Type)(a b:Int)(k1:Int->Nat->Nat->Int->Op α)(k2:Bool->Op α):Op α:=
 cK (decide ((w64 (b - a)) < 1048576))
 (xf α a b
 (fun c d e g=>dM α
 (k1 g c d e)))
 (k2 (decide ((w64 (b - a)) < 1048576)))
def tg:HC:=sld He
def Le (v:HC)(α:Type)(K:KT α):Int->Int->Int->Int->Int->Int->Int->ae->Int->Int->Nat->Nat->Int->Int->Int->Int->Int->Nat->Nat->Int->Op α:=fun w d e g h i j l m o p q r a b s t z A B=>v α a b (fun c C D F=>aj2 (K .normal) c d e g h i j l m o p q r a b s t C D F) (fun c=>aii (K .normal) c w d e g h i j l m o p q r a b s t z A B)
theorem agD:∀ (α:Type) (K:KT α),Le tg α K=DM.unc fun σ=>az Pg aA5 avO aa9 K σ:=aZ (fun α K=>by kernel_rfl)
abbrev VV:Type 1:=(α:Type)->Int->Int->Int->Int->Int->Int->ae->Int->Int->Int->Int->(Nat->Nat->Int->Int->Op α)->Op α
def XH (α:Type)(i j l m o p:Int)(q:ae)(r s t a:Int)(k1:Nat->Nat->Int->Int->Op α):Op α:=
 Dg α i j l m o p q r s t
 (fun w z e g b=>cK (b != 0)
 (k1 0 0 0 b)
 (tg α (w64 (a*w)) (w64 (a*z))
 (fun h A B C=>cK (h != 0)
 (k1 0 0 0 h)
 (r8 α (w64 (a*e)) (w64 (a*g))
 (fun D F c=>cK (c != 0)
 (k1 0 0 0 c)
 (pJ α c D F
 (fun G H I J=>cO α J A B C G H I
 (fun L M N O=>k1 L M N O))))))
 (fun a0=>cK (b != 0)
 (k1 0 0 0 b)
 (r8 α (w64 (a*e)) (w64 (a*g))
 (fun P Q d=>cK (d != 0)
 (k1 0 0 0 d)
 (pJ α d P Q
 (fun R T U V=>cO α V 0 0 1048576 R T U
 (fun W X Y Z=>k1 W X Y Z))))))))
def yC:VV:=sld XH
def T0 (v:VV)(α:Type)(k:RT α):Int->Int->Int->Int->Int->Int->Int->ae->I4 (Op α):=fun j a b c l d e g h i m o=>v α j a b c d e g h i m o (fun p q r s=>cH k p q r s a b c l d e g h i)
def apG:ag:=(ag.put (.u 3) [1,1,0,1,0] (ag.put (.m [⟨DM,Le tg⟩]) [1,1,1,1,1] (emb TC)))
theorem anz:ak Pg 182 95 ⟨qM,T0 yC⟩:=iZ aBj (ah Tryz.func182 (by kernel_rfl)) avO apG ((an _ _).trans ((an _ _).trans (aA _))) (GV (by decide) (aM (by kernel_rfl) (aD TC) ⟨agD,trivial⟩)) fun _ _=>by kernel_rfl
def aBv:SG:=[(12,iT),(14,iS 2),(16,iT),(18,iS 2),(20,[.sl]),(22,iS 2),(32,iS 2),(34,iS 2),(36,iS 2),(39,iT),(40,iS 2),(41,iS 2)]
def aB6:TG:=[tT 0 [3,4,5,6],tT 1 [4,6,8,9],tT 2 [4,6,8,9,28],tT 3 [6,7],tT 4 [6,7]]
def aE1:aq:=aw Pg Tryz.f125 aB6 aC
abbrev Ae:Type 1:=(α:Type)->ae->Int->Int->Int->Int->Int->Int->Int->Int->Int->(Int->Int->Int->Op α)->Op α
def XA (α:Type)(j:ae)(l m a o p q r s t:Int)(k1:Int->Int->Int->Op α):Op α:=
 BU α p s t o q r j l m
 (fun b c d e g h i=>cK (i != 0)
 (k1 0 0 i)
 (ixK [[DC.v (.int .i64 b),DC.v (.int .i64 c)],[DC.v (.int .i64 d),DC.v (.int .i64 e)],[DC.v (.int .i64 g),DC.v (.int .i64 h)]] a 2
 (ldK [[DC.v (.int .i64 b),DC.v (.int .i64 c)],[DC.v (.int .i64 d),DC.v (.int .i64 e)],[DC.v (.int .i64 g),DC.v (.int .i64 h)]] (Int.toNat a) 0 [.int .i64,.int .i64]
 (fun w z=>k1 w z 0))))
def CZ:Ae:=sld XA
def VE (v:Ae)(α:Type)(k:RT α):ae->ae->I15 (Op α):=fun q a b c d e g r s t w z A h i j l=>v α a b c d e g h i j l (fun m o p=>jd k m o p)
theorem ao0:ak Pg 125 42 ⟨yH,VE CZ⟩:=iP aBj aE1 (ah Tryz.func125 (by kernel_rfl)) aBv fun _ _=>by kernel_rfl
def Gv:SG:=[(22,[.sl]),(30,iT),(45,[.cpx .f64,.int .i64]),(51,[.cpx .f64,.int .i64,.cpx .f64,.int .i64,.cpx .f64,.int .i64,.cpx .f64,.int .i64]),(53,[.cpx .f64,.int .i64]),(54,[.cpx .f64,.int .i64]),(57,[.cpx .f64,.int .i64,.cpx .f64,.int .i64,.cpx .f64,.int .i64,.cpx .f64,.int .i64]),(58,[.cpx .f64,.int .i64])]
def aAw:TG:=[tT 0 [0,1,4,5],tT 1 [0,1,4,5,6,7],tT 2 [0,1,4,5,6,7,8],tT 3 [0,1,4,5,6,7,8,32],tT 5 [0,1,4,5,6,7,8,9],tT 6 [0,1,4,5,6,7,8,9,10],tT 7 [0,1,4,5,6,7,8,9,10,41],tT 8 [0,1,4,5,6,7,8,9,10],tT 9 [0,1,4,5,6,7,8],tT 4 [0,1,4,5,6,7,8],tT 10 [0,4,5]]
def aHK:TG:=[tT 3 [0,1,4,5,6,7,8]]
def LS:aq:=aw Pg Tryz.f153 aAw aHK
def uz:OT:=tdC (ag.sub [1,1,0,1,0] (emb LS))
def tw:PT St:=pSv [(0,500000000,0)] [sl 0 (aV false [(cB 500000000 0)]),sl 1 (aV false [(cD dB)]),sP 4,sP 5,sP 6,sP 7,sI 8,sP 9,sP 10] [au 500000000 [xI,xI,xI,xI,xI,xI,xI,(cD dL),xI,xI],au 4 [(cD (dX .f64)),xI,(cD (dX .f64)),xI,(cD (dX .f64)),xI,(cD (dX .f64)),xI],au 5 [(cD (dX .f64)),xI],au 6 [(cD (dX .f64)),xI,(cD (dX .f64)),xI,(cD (dX .f64)),xI,(cD (dX .f64)),xI],au 7 [(cD (dX .f64)),xI],au 9 [(cD (dX .f64)),xI],au 10 [(cD (dX .f64)),xI]]
def aiX {β:Type}(g:St->β):Bool->Int->Int->Int->Int->Int->Int->Int->Int->ae->Int->Int->Nat->Nat->Int->Nat->Nat->Int->Nat->Nat->Int->Nat->Nat->Int->Nat->Nat->Int->Nat->Nat->Int->Nat->Nat->Int->Nat->Nat->Int->Nat->Nat->Int->Nat->Nat->Int->Nat->Nat->Int->Nat->Nat->Int->β:=tw.unc g
def aiA:PT St:=pSv [(0,500000000,0)] [sl 0 (aV false [(cB 500000000 0)]),sl 1 (aV false [(cD dB)]),sP 4,sP 5,sP 6,sP 7,sI 8,sP 9,sP 10,sl 41 (aV false [(cD dB)])] [au 500000000 [xI,xI,xI,xI,xI,xI,xI,(cD dL),xI,xI],au 4 [(cD (dX .f64)),xI,(cD (dX .f64)),xI,(cD (dX .f64)),xI,(cD (dX .f64)),xI],au 5 [(cD (dX .f64)),xI],au 6 [(cD (dX .f64)),xI,(cD (dX .f64)),xI,(cD (dX .f64)),xI,(cD (dX .f64)),xI],au 7 [(cD (dX .f64)),xI],au 9 [(cD (dX .f64)),xI],au 10 [(cD (dX .f64)),xI]]
def alx {β:Type}(g:St->β):Bool->Int->Bool->Int->Int->Int->Int->Int->Int->Int->ae->Int->Int->Nat->Nat->Int->Nat->Nat->Int->Nat->Nat->Int->Nat->Nat->Int->Nat->Nat->Int->Nat->Nat->Int->Nat->Nat->Int->Nat->Nat->Int->Nat->Nat->Int->Nat->Nat->Int->Nat->Nat->Int->Nat->Nat->Int->β:=aiA.unc g
def Cv:PT St:=pSv [(0,500000000,0)] [sl 0 (aV false [(cB 500000000 0)]),sl 1 (aV false [(cD dB)]),sP 4,sP 5,sP 6,sP 7,sI 8] [au 500000000 [xI,xI,xI,xI,xI,xI,xI,(cD dL),xI,xI],au 4 [(cD (dX .f64)),xI,(cD (dX .f64)),xI,(cD (dX .f64)),xI,(cD (dX .f64)),xI],au 5 [(cD (dX .f64)),xI],au 6 [(cD (dX .f64)),xI,(cD (dX .f64)),xI,(cD (dX .f64)),xI,(cD (dX .f64)),xI],au 7 [(cD (dX .f64)),xI]]
def DW {β:Type}(g:St->β):Bool->Int->Int->Int->Int->Int->Int->Int->Int->ae->Int->Int->Nat->Nat->Int->Nat->Nat->Int->Nat->Nat->Int->Nat->Nat->Int->Nat->Nat->Int->Nat->Nat->Int->Nat->Nat->Int->Nat->Nat->Int->Nat->Nat->Int->Nat->Nat->Int->β:=Cv.unc g
def adt:PT St:=pSv [(0,500000000,0)] [sl 0 (aV false [(cB 500000000 0)]),sl 1 (aV false [(cD dB)]),sP 4,sP 5,sP 6,sP 7,sI 8,sl 32 (aV false [(cD dB)])] [au 500000000 [xI,xI,xI,xI,xI,xI,xI,(cD dL),xI,xI],au 4 [(cD (dX .f64)),xI,(cD (dX .f64)),xI,(cD (dX .f64)),xI,(cD (dX .f64)),xI],au 5 [(cD (dX .f64)),xI],au 6 [(cD (dX .f64)),xI,(cD (dX .f64)),xI,(cD (dX .f64)),xI,(cD (dX .f64)),xI],au 7 [(cD (dX .f64)),xI]]
def wW {β:Type}(g:St->β):Bool->Int->Bool->Int->Int->Int->Int->Int->Int->Int->ae->Int->Int->Nat->Nat->Int->Nat->Nat->Int->Nat->Nat->Int->Nat->Nat->Int->Nat->Nat->Int->Nat->Nat->Int->Nat->Nat->Int->Nat->Nat->Int->Nat->Nat->Int->Nat->Nat->Int->β:=adt.unc g
def aac:PT (List RV):=pRs [pR true [rD (dX .f64),rD (dI .i64),rD (dX .f64),rD (dI .i64),rD (dX .f64),rD (dI .i64),rD (dX .f64),rD (dI .i64)],pR true [rD (dX .f64),rD (dI .i64)],pR true [rD (dI .i64),rD (dI .i64),rD (dI .i64),rD (dI .i64),rD (dI .i64),rD (dI .i64),rD (dI .i64),rD dL,rD (dI .i64),rD (dI .i64)]]
def ab3 {β:Type}(g:List RV->β):Nat->Nat->Int->Nat->Nat->Int->Nat->Nat->Int->Nat->Nat->Int->Nat->Nat->Int->Int->Int->Int->Int->Int->Int->Int->ae->Int->Int->β:=aac.unc g
noncomputable abbrev ax3:List bA:=⟨182,95,[⟨qM,T0 yC⟩]⟩::⟨125,42,[⟨yH,VE CZ⟩]⟩::ay4
theorem aEL:bG ax3 fun c=>bG c.l (ak Pg c.f c.nt):=⟨⟨anz,trivial⟩,⟨ao0,trivial⟩,aC7⟩
def OZ:aE:=aE.ofIO ax3 bt io0
theorem aDS:OZ.Ok Pg:=aE.ofIO_ok aN aEL
def ZU:ag:=ag.sub [1,1,0,1,0,0,1,0,0,1,1,0] (emb LS)
abbrev HQ:Type 1:=(α:Type)->Bool->Int->Int->Int->Int->Int->Int->Int->ae->Int->Int->Nat->Nat->Int->(Int->Nat->Nat->Int->Op α)->(Op α)->Op α
def HE (α:Type)(a:Bool)(b c d e g h i:Int)(j:ae)(l m:Int)(o p:Nat)(q:Int)(k1:Int->Nat->Nat->Int->Op α)(k2:Op α):Op α:=
 cK a
 (yC α c d e g h i j l m b 1
 (fun r s t w=>cO α w o p q r s t
 (fun z A B C=>k1 C z A B)))
 (k2)
def pr:HQ:=sld HE
def BP (v:HQ)(α:Type)(K:KT α):Bool->Int->Int->Int->Int->Int->Int->Int->Int->ae->Int->Int->Nat->Nat->Int->Nat->Nat->Int->Nat->Nat->Int->Nat->Nat->Int->Nat->Nat->Int->Nat->Nat->Int->Nat->Nat->Int->Nat->Nat->Int->Nat->Nat->Int->Nat->Nat->Int->Nat->Nat->Int->Nat->Nat->Int->Op α:=fun a b m c d e o g h i j l p q r s t w z A B C D F G H I J L M N O P Q R T U V W X Y Z a0 a1 a2 a3 a4 a5=>v α a b m c d e g h i j l X Y Z (fun a6 a7 a8 a9=>aiX (K .normal) a b a6 c d e o g h i j l p q r s t w z A B C D F G H I J L M N O P Q R T U V W a7 a8 a9 a0 a1 a2 a3 a4 a5) (alx (K .normal) a b a m c d e o g h i j l p q r s t w z A B C D F G H I J L M N O P Q R T U V W X Y Z a0 a1 a2 a3 a4 a5)
theorem akv:∀ (α:Type) (K:KT α),BP pr α K=tw.unc fun σ=>az Pg OZ Gv ZU K σ:=aZ (fun α K=>by kernel_rfl)
def vX:ag:=ag.sub [1,1,0,1,0,0] (ag.put (.m [⟨tw,BP pr⟩]) [1,1,0,1,0,0,1,0,0,1,1] (emb LS))
def nI (α:Type)(P:Bool)(z A B Q F G:Int)(c:ae)(C D a b:Int)(d e:Nat)(g:Int)(h i:Nat)(j:Int)(l m:Nat)(o:Int)(p q:Nat)(r:Int)(s t:Nat)(w:Int)(kn:Int->Int->Nat->Nat->Int->Nat->Nat->Int->Nat->Nat->Int->Nat->Nat->Int->Nat->Nat->Int->Op α)(k1:Int->Bool->Int->Nat->Nat->Int->Nat->Nat->Int->Nat->Nat->Int->Nat->Nat->Int->Nat->Nat->Int->Op α):Op α:=
 cK (decide (a<=((List.length c:Nat):Int)))
 (cK (b == 0)
 (jX α b z A B Q c C D a
 (fun H I J R=>yC α R z A B F G c C D a 2
 (fun L M N O=>pr α P a O z A B F G c C D s t w
 (fun T U V W=>yu α T H I J L M N
 (fun X Y Z a0 a1 a2 a3 a4 a5 a6 a7 a8 a9=>yp α a9 d e g h i j l m o p q r X Y Z a0 a1 a2 a3 a4 a5 a6 a7 a8
 (fun b0 b1 b2 b3 b4 b5 b6 b7 b8 b9 c0 c1 c2=>kn (w64 (a+1)) c2 b0 b1 b2 b3 b4 b5 b6 b7 b8 b9 c0 c1 U V W)))
 (yu α O H I J L M N
 (fun c3 c4 c5 c6 c7 c8 c9 d0 d1 d2 d3 d4 d5=>yp α d5 d e g h i j l m o p q r c3 c4 c5 c6 c7 c8 c9 d0 d1 d2 d3 d4
 (fun d6 d7 d8 d9 e0 e1 e2 e3 e4 e5 e6 e7 e8=>kn (w64 (a+1)) e8 d6 d7 d8 d9 e0 e1 e2 e3 e4 e5 e6 e7 s t w))))))
 (k1 a (b == 0) b d e g h i j l m o p q r s t w))
 (k1 a false b d e g h i j l m o p q r s t w)
def lp (α:Type)(a:Bool)(b c d e g h:Int)(i:ae)(j l:Int)(k1:Int->Bool->Int->Nat->Nat->Int->Nat->Nat->Int->Nat->Nat->Int->Nat->Nat->Int->Nat->Nat->Int->Op α):Nat->Int->Int->Nat->Nat->Int->Nat->Nat->Int->Nat->Nat->Int->Nat->Nat->Int->Nat->Nat->Int->Op α
 | 0=>fun _ _ _ _ _ _ _ _ _ _ _ _ _ _ _ _ _=>none
 | n+1=>fun m o p q r s t w z A B C D F G H I=>nI α a b c d e g h i j l m o p q r s t w z A B C D F G H I (lp α a b c d e g h i j l k1 n) k1
def FV (α:Type)(a:Bool)(b c d e g h:Int)(i:ae)(j l:Int)(k1:Int->Bool->Int->Nat->Nat->Int->Nat->Nat->Int->Nat->Nat->Int->Nat->Nat->Int->Nat->Nat->Int->Op α)(m o:Int)(p q:Nat)(r:Int)(s t:Nat)(w:Int)(z A:Nat)(B:Int)(C D:Nat)(F:Int)(G H:Nat)(I:Int):Op α:=lp α a b c d e g h i j l k1 aF m o p q r s t w z A B C D F G H I
abbrev GU:Type 1:=(α:Type)->Bool->Int->Int->Int->Int->Int->Int->ae->Int->Int->(Int->Bool->Int->Nat->Nat->Int->Nat->Nat->Int->Nat->Nat->Int->Nat->Nat->Int->Nat->Nat->Int->Op α)->Int->Int->Nat->Nat->Int->Nat->Nat->Int->Nat->Nat->Int->Nat->Nat->Int->Nat->Nat->Int->Op α
def vk:GU:=sld FV
def OE (v:GU)(α:Type)(K:KT α):Bool->Int->Int->Int->Int->Int->Int->Int->Int->ae->Int->Int->Nat->Nat->Int->Nat->Nat->Int->Nat->Nat->Int->Nat->Nat->Int->Nat->Nat->Int->Nat->Nat->Int->Nat->Nat->Int->Nat->Nat->Int->Nat->Nat->Int->Nat->Nat->Int->Op α:=fun a m o b c d e g h i j l p q r s t w z A B C D F G H I J L M N O P Q R T U V W X Y Z=>v α a b c d e g h i j l (fun a0 a1 a2 a3 a4 a5 a6 a7 a8 a9 b0 b1 b2 b3 b4 b5 b6 b7=>wW (K (.exit 0)) a a0 a1 a2 b c d e g h i j l p q r s t w z A B C D F G H I a3 a4 a5 a6 a7 a8 a9 b0 b1 b2 b3 b4 b5 b6 b7) m o J L M N O P Q R T U V W X Y Z
theorem aer (α:Type)(K:KT α)(Kn:SK α)(a:Bool)(b c d e g h i j:Int)(l:ae)(m o:Int)(J L:Nat)(M:Int)(N O:Nat)(P:Int)(Q R:Nat)(T:Int)(U V:Nat)(W:Int)(X Y:Nat)(Z:Int)(p q:Nat)(r:Int)(s t:Nat)(w:Int)(z A:Nat)(B:Int)(C D:Nat)(F:Int)(G H:Nat)(I:Int):DW (fun σ=>az Pg OZ Gv vX (bK (fun σ=>bq uz σ Kn) K) σ) a b c d e g h i j l m o J L M N O P Q R T U V W X Y Z p q r s t w z A B C D F G H I=nI α a d e g h i j l m o b c p q r s t w z A B C D F G H I (fun b c p q r s t w z A B C D F G H I=>DW Kn a b c d e g h i j l m o J L M N O P Q R T U V W X Y Z p q r s t w z A B C D F G H I) (fun a0 a1 a2 a3 a4 a5 a6 a7 a8 a9 b0 b1 b2 b3 b4 b5 b6 b7=>wW (K (.exit 0)) a a0 a1 a2 d e g h i j l m o J L M N O P Q R T U V W X Y Z a3 a4 a5 a6 a7 a8 a9 b0 b1 b2 b3 b4 b5 b6 b7):=by kernel_rfl
theorem ahW (α:Type)(K:KT α):∀ (n:Nat) (a:Bool) (m o b c d e g h:Int) (i:ae) (j l:Int) (J L:Nat) (M:Int) (N O:Nat) (P:Int) (Q R:Nat) (T:Int) (U V:Nat) (W:Int) (X Y:Nat) (Z:Int) (p q:Nat) (r:Int) (s t:Nat) (w:Int) (z A:Nat) (B:Int) (C D:Nat) (F:Int) (G H:Nat) (I:Int),lp α a b c d e g h i j l (fun a0 a1 a2 a3 a4 a5 a6 a7 a8 a9 b0 b1 b2 b3 b4 b5 b6 b7=>wW (K (.exit 0)) a a0 a1 a2 b c d e g h i j l J L M N O P Q R T U V W X Y Z a3 a4 a5 a6 a7 a8 a9 b0 b1 b2 b3 b4 b5 b6 b7) n m o p q r s t w z A B C D F G H I=DW (aJ (az Pg OZ Gv vX) uz K n) a m o b c d e g h i j l J L M N O P Q R T U V W X Y Z p q r s t w z A B C D F G H I:=by
 intro n
 induction n with
 | zero=>intros;rfl
 | succ n ih=>intro a m o b c d e g h i j l J L M N O P Q R T U V W X Y Z p q r s t w z A B C D F G H I;exact (congrArg (fun kn=>nI α a b c d e g h i j l m o p q r s t w z A B C D F G H I kn (fun a0 a1 a2 a3 a4 a5 a6 a7 a8 a9 b0 b1 b2 b3 b4 b5 b6 b7=>wW (K (.exit 0)) a a0 a1 a2 b c d e g h i j l J L M N O P Q R T U V W X Y Z a3 a4 a5 a6 a7 a8 a9 b0 b1 b2 b3 b4 b5 b6 b7)) (funext fun m=>funext fun o=>funext fun p=>funext fun q=>funext fun r=>funext fun s=>funext fun t=>funext fun w=>funext fun z=>funext fun A=>funext fun B=>funext fun C=>funext fun D=>funext fun F=>funext fun G=>funext fun H=>funext fun I=>ih a m o b c d e g h i j l J L M N O P Q R T U V W X Y Z p q r s t w z A B C D F G H I)).trans (aer α K (aJ (az Pg OZ Gv vX) uz K n) a m o b c d e g h i j l J L M N O P Q R T U V W X Y Z p q r s t w z A B C D F G H I).symm
theorem ami:∀ (α:Type) (K:KT α),OE vk α K=Cv.unc fun σ=>aJ (az Pg OZ Gv vX) uz K aF σ:=aZ (fun α K=>funext fun a=>funext fun b=>funext fun c=>funext fun d=>funext fun e=>funext fun g=>funext fun h=>funext fun i=>funext fun j=>funext fun l=>funext fun m=>funext fun o=>funext fun p=>funext fun q=>funext fun r=>funext fun s=>funext fun t=>funext fun w=>funext fun z=>funext fun A=>funext fun B=>funext fun C=>funext fun D=>funext fun F=>funext fun G=>funext fun H=>funext fun I=>funext fun J=>funext fun L=>funext fun M=>funext fun N=>funext fun O=>funext fun P=>funext fun Q=>funext fun R=>funext fun T=>funext fun U=>funext fun V=>funext fun W=>funext fun X=>funext fun Y=>funext fun Z=>ahW α K aF a b c d e g h i j l m o p q r s t w z A B C D F G H I J L M N O P Q R T U V W X Y Z)
abbrev T7:Type 1:=(α:Type)->Int->Int->Int->Int->Int->Int->Int->ae->Int->Int->Bool->(Nat->Nat->Int->Nat->Nat->Int->Nat->Nat->Int->Nat->Nat->Int->Nat->Nat->Int->Int->Op α)->Op α
def V8 (α:Type)(a b c d e g h:Int)(i:ae)(j l:Int)(m:Bool)(k1:Nat->Nat->Int->Nat->Nat->Int->Nat->Nat->Int->Nat->Nat->Int->Nat->Nat->Int->Int->Op α):Op α:=
 mX α
 (B1 α
 (B1 α
 (mX α
 (mX α
 (vk α m b c d e g h i j l
 (fun J L o p q r s t w z A B C D F G H I=>k1 p q r s t w z A B C D F G H I o) 1 a 4697254411347427328 0 0 0 0 0 0 0 0 4697254411347427328 0 0 4697254411347427328 0 0)))))
def Ej:T7:=sld V8
def Ay:PT (List DV):=pA [pV false [(dMr [(dI .i64),(dI .i64),(dI .i64),(dI .i64),(dI .i64),(dI .i64),(dI .i64),dL,(dI .i64),(dI .i64)] 0)],pV false [dB]]
def Sv (v:T7)(α:Type)(k:RT α):Int->Int->Int->Int->Int->Int->Int->ae->Int->Int->Bool->Op α:=fun l a b c d e g h i j m=>v α l a b c d e g h i j m (fun o p q r s t w z A B C D F G H I=>ab3 k o p q r s t w z A B C D F G H I a b c d e g h i j)
def aqi:ag:=(ag.put (.m [⟨Cv,OE vk⟩]) [1,1,0,1,0] (ag.put (.m [⟨tw,BP pr⟩]) [1,1,0,1,0,0,1,0,0,1,1] (emb LS)))
theorem am9:ak Pg 153 59 ⟨Ay,Sv Ej⟩:=iZ aDS (ah Tryz.func153 (by kernel_rfl)) Gv aqi ((an _ _).trans ((an _ _).trans (aA _))) (aY (td:=uz) (by kernel_rfl) (aM (by kernel_rfl) (aD LS) ⟨akv,trivial⟩) ⟨ami,trivial⟩) fun _ _=>by kernel_rfl
def av0:SG:=[(10,[.sl,.sl,.int .i64,.int .i64]),(11,iS 9),(12,iS 4),(19,iT),(22,iT),(27,iT),(30,iT),(35,iT),(38,iT),(43,iT),(46,iT)]
def aGc:TG:=[tT 0 [3,4,5],tT 1 [4,7,8],tT 2 [4,7,17],tT 3 [6],tT 4 [4,7,33],tT 5 [6],tT 6 [49],tT 7 [6],tT 8 [6]]
def ajp:aq:=aw Pg Tryz.f101 aGc aC
def Cj:PT St:=pS [sP 4,sP 7,sl 17 (aV false [(cD dB)])] [au 4 (xs 9),au 7 [xI,xI]]
def aCW {β:Type}(g:St->β):Bool->I11 β:=Cj.unc g
def afO:PT St:=pS [sI 6] []
def aiF {β:Type}(g:St->β):Int->β:=afO.unc g
def aeW:PT St:=pS [sP 4,sP 7,sl 33 (aV false [(cD dB)])] [au 4 (xs 9),au 7 [xI,xI]]
def ajy {β:Type}(g:St->β):Bool->I11 β:=aeW.unc g
def abv:ag:=ag.sub [1,1,1,0] (emb ajp)
def HF (α:Type)(c a d b:Int)(k1:Op α)(k2:Bool->Op α):Op α:=
 cK (decide ((w64 (c*1048576))<=(w64 (d*10000))))
 (cK (decide ((w64 (b*10000))<=(w64 (a*1048576))))
 (k1)
 (k2 (decide ((w64 (b*10000))<=(w64 (a*1048576))))))
 (k2 false)
def lR:qs:=sld HF
def MT (v:qs)(α:Type)(K:KT α):Bool->I11 (Op α):=fun p e g h i j l m a b c d=>v α a b c d (aiF (K .ret) 2) (fun o=>ajy (K .normal) o e g h i j l m a b c d)
theorem acu:∀ (α:Type) (K:KT α),MT lR α K=Cj.unc fun σ=>az Pg OZ av0 abv K σ:=aZ (fun α K=>by kernel_rfl)
abbrev zW:Type 1:=(α:Type)->ae->Int->Int->Int->Int->Int->Int->Int->Int->Int->Int->Int->(Int->Op α)->Op α
def Y5 (α:Type)(e:ae)(g h i j l a b m o p q:Int)(k1:Int->Op α):Op α:=
 CZ α e g h i j l m o p q
 (fun c d r=>cK (r != 0)
 (k1 1)
 (lR α a b c d
 (k1 2)
 (fun s=>cK (decide ((w64 (d*10000)) < (w64 (a*1048576))))
 (k1 0)
 (cK (decide ((w64 (b*1048576)) < (w64 (c*10000))))
 (k1 0)
 (k1 1)))))
def ed:zW:=sld Y5
def UV (v:zW)(α:Type)(k:RT α):ae->ae->I15 (Op α):=fun q a b c d e g r s t w h i j l m o=>v α a b c d e g h i j l m o (fun p=>aR k p)
def aqL:ag:=(ag.put (.m [⟨Cj,MT lR⟩]) [1,1,1] (emb ajp))
theorem auL:ak Pg 101 50 ⟨yH,UV ed⟩:=iZ aDS (ah Tryz.func101 (by kernel_rfl)) av0 aqL ((an _ _).trans (aA _)) (aM (by kernel_rfl) (aD ajp) ⟨acu,trivial⟩) fun _ _=>by kernel_rfl
def aGy:SG:=[(26,[.sl]),(34,[.cpx .f64,.int .i64]),(39,[.cpx .f64,.int .i64]),(40,[.cpx .f64,.int .i64]),(47,[.cpx .f64,.int .i64]),(52,[.cpx .f64,.int .i64]),(53,[.cpx .f64,.int .i64]),(59,[.cpx .f64,.int .i64]),(60,[.cpx .f64,.int .i64]),(65,[.cpx .f64,.int .i64]),(66,[.cpx .f64,.int .i64]),(78,[.cpx .f64,.int .i64]),(79,[.cpx .f64,.int .i64]),(81,[.cpx .f64,.int .i64]),(83,[.cpx .f64,.int .i64]),(91,[.cpx .f64,.int .i64]),(92,[.cpx .f64,.int .i64]),(94,[.cpx .f64,.int .i64])]
def aHZ:TG:=[tT 0 [0,1,4],tT 1 [0,1,4,5],tT 2 [0,1,4,5,6,7],tT 3 [0,1,4,5,6,7,8],tT 4 [0,1,4,5,6,7,8,9],tT 5 [0,1,4,5,7,9,10],tT 6 [0,1,4,5,7,10,11],tT 7 [0,1,4,5,7,10,11,12],tT 8 [0,4,5,7,10,11,12,68],tT 9 [0,4],tT 10 [0,4]]
def aHm:aq:=aw Pg Tryz.f128 aHZ aC
noncomputable abbrev ayW:List bA:=⟨153,59,[⟨Ay,Sv Ej⟩]⟩::⟨101,50,[⟨yH,UV ed⟩]⟩::ax3
theorem aAt:bG ayW fun c=>bG c.l (ak Pg c.f c.nt):=⟨⟨am9,trivial⟩,⟨auL,trivial⟩,aEL⟩
def azK:aE:=aE.ofIO ayW bt io0
theorem aAx:azK.Ok Pg:=aE.ofIO_ok aN aAt
abbrev Vz:Type 1:=(α:Type)->Int->Int->Int->Int->Int->Int->Int->ae->Int->Int->Bool->(Nat->Nat->Int->Int->Op α)->Op α
def Rh (α:Type)(G b c d e H I:Int)(a:ae)(g h:Int)(m:Bool)(k1:Nat->Nat->Int->Int->Op α):Op α:=
 jX α G b c d e a g h 0
 (fun i j l J=>Ej α J b c d e H I a g h m
 (fun L M N O P Q R T U V W X Y Z a0 a1=>jX α a1 b c d e a g h (w64 (((List.length a:Nat):Int)+1))
 (fun o p q a2=>cO α a2 O P Q o p q
 (fun a3 a4 a5 a6=>fw α a6 L M N a3 a4 a5
 (fun a7 a8 a9 b0=>cO α b0 V W X o p q
 (fun b1 b2 b3 b4=>fw α b4 R T U b1 b2 b3
 (fun r s t b5=>cO α b5 i j l a7 a8 a9
 (fun w z A b6=>fw α b6 w z A r s t
 (fun B C D F=>cK m
 (fw α F i j l i j l
 (fun b7 b8 b9 c0=>cO α c0 b7 b8 b9 Y Z a0
 (fun c1 c2 c3 c4=>pu α c4 c1 c2 c3 B C D
 (fun c5 c6 c7 c8=>k1 c5 c6 c7 c8))))
 (pD α F w z A r s t
 (fun c9 d0 d1 d2=>pu α d2 c9 d0 d1 B C D
 (fun d3 d4 d5 d6=>k1 d3 d4 d5 d6))))))))))))
def yy:Vz:=sld Rh
def Un (v:Vz)(α:Type)(k:RT α):Int->Int->Int->Int->Int->Int->Int->ae->Int->Int->Bool->Op α:=fun l a b c d e g h i j m=>v α l a b c d e g h i j m (fun o p q r=>cH k o p q r a b c d e g h i j)
theorem anm:ak Pg 128 96 ⟨Ay,Un yy⟩:=iP aAx aHm (ah Tryz.func128 (by kernel_rfl)) aGy fun _ _=>by kernel_rfl
def nk:SG:=[(20,[.bool]),(22,[.sl]),(24,iS 9),(25,iS 9),(26,[.sl,.sl,.int .i64,.int .i64]),(27,iS 9),(28,iS 4),(35,[.sl]),(42,iS 2),(45,iS 2),(48,[.sl,.sl,.int .i64,.int .i64]),(49,iS 9),(51,iT),(53,iT),(59,iS 3),(65,iS 4),(83,[.sl]),(90,iS 4),(96,[.sl,.sl,.int .i64,.int .i64]),(98,iS 4),(103,[.sl,.sl,.int .i64,.int .i64]),(105,iS 4)]
def aKn:TG:=[tT 0 [0,2,4,6,8],tT 1 [0,2,4,6,8,20],tT 2 [0,2,4,6,8,10],tT 3 [0,2,4,6,8,10,30],tT 4 [0],tT 5 [0,2,4,6,8,10,11],tT 6 [0,2,4,6,8,11,56],tT 7 [0],tT 8 [0,2,4,6,8,12,13],tT 9 [0,2,4,6,8,12,74],tT 10 [0],tT 11 [0,2,4,6,8,12,14],tT 12 [0,2,4,6,8,12,14,78],tT 13 [0,2,4,6,8,12,14],tT 14 [0,2,4,6,8,12],tT 15 [0,2,4,6,15,16],tT 16 [0,2,4,6,16],tT 17 [0]]
def iJ:aq:=aw Pg Tryz.f74 aKn aC
def gB:PT St:=pSv [(0,500000000,0)] [sl 0 (aV false [(cB 500000000 0)]),sI 2,sI 4,sP 6,sP 8,sl 12 (aV false [(cD dB)]),sl 13 (aV false [(cD dB)])] [au 500000000 [(ej 500000001),(cD dB),xI,xI,xI,(cD dB)],ei 500000001 1,au 6 [(cD dL),(cD dL),xI,xI],au 8 (xs 4)]
def aIx {β:Type}(g:St->β):Int->Int->Bool->Bool->Bool->Int->Int->Int->Bool->ae->ae->ae->I6 β:=gB.unc g
def aq4:PT St:=pSv [(0,500000000,0)] [sl 0 (aV false [(cB 500000000 0)]),sI 2,sI 4,sP 6,sP 8,sl 12 (aV false [(cD dB)]),sl 74 (aV false [(cD dB)])] [au 500000000 [(ej 500000001),(cD dB),xI,xI,xI,(cD dB)],ei 500000001 1,au 6 [(cD dL),(cD dL),xI,xI],au 8 (xs 4)]
def uq {β:Type}(g:St->β):Int->Int->Bool->Bool->Bool->Int->Int->Int->Bool->ae->ae->ae->I6 β:=aq4.unc g
def gG:PT St:=pSv [(0,500000000,0)] [sl 0 (aV false [(cB 500000000 0)]),sI 2,sI 4,sP 6,sP 8,sl 12 (aV false [(cD dB)]),sI 14] [au 500000000 [(ej 500000001),(cD dB),xI,xI,xI,(cD dB)],ei 500000001 1,au 6 [(cD dL),(cD dL),xI,xI],au 8 (xs 4)]
def vC {β:Type}(g:St->β):Int->Int->Bool->Int->Bool->Int->Int->Int->Bool->ae->ae->ae->I6 β:=gG.unc g
def auh:PT St:=pSv [(0,500000000,0)] [sl 0 (aV false [(cB 500000000 0)]),sI 2,sI 4,sP 6,sP 8,sl 12 (aV false [(cD dB)]),sI 14,sl 78 (aV false [(cD dB)])] [au 500000000 [(ej 500000001),(cD dB),xI,xI,xI,(cD dB)],ei 500000001 1,au 6 [(cD dL),(cD dL),xI,xI],au 8 (xs 4)]
def vE {β:Type}(g:St->β):Int->Int->Bool->Int->Bool->Bool->Int->Int->Int->Bool->ae->ae->ae->I6 β:=auh.unc g
def akR:PT (List RV):=pRs [pR true [rO 1,rD dB,rD (dI .i64),rD (dI .i64),rD (dI .i64),rD dB]]
def lz {β:Type}(g:List RV->β):ae->Bool->Int->Int->Int->Bool->β:=akR.unc g
def akC:ag:=ag.sub [1,1,1,1,1,1,1,1,1,0] (emb iJ)
def ahy (α:Type)(a:Bool)(k1:Op α)(k2:Op α):Op α:=
 cK a
 (k1)
 (k2)
def Ih:bV:=sld ahy
def Y7 (v:bV)(α:Type)(K:KT α):Int->Int->Bool->Int->Bool->Int->Int->Int->Bool->ae->ae->ae->I6 (Op α):=fun b c a w d e g h i j l m o p q r s t=>v α a (vC (K .normal) b c a 1 d e g h i j l m o p q r s t) (vE (K .normal) b c a w a d e g h i j l m o p q r s t)
theorem aul:∀ (α:Type) (K:KT α),Y7 Ih α K=gG.unc fun σ=>az Pg azK nk akC K σ:=aZ (fun α K=>by kernel_rfl)
def ake:ag:=ag.sub [1,1,1,1,1,1,1,0,0] (emb iJ)
abbrev eG:Type 1:=(α:Type)->Int->Bool->(Bool->Op α)->Op α
def K5 (α:Type)(a:Int)(b:Bool)(k1:Bool->Op α):Op α:=
 cK (decide (5<=a))
 (k1 true)
 (k1 (!b))
def vO:eG:=sld K5
def R2 (v:eG)(α:Type)(K:KT α):Int->Int->Bool->Bool->Bool->Int->Int->Int->Bool->ae->ae->ae->I6 (Op α):=fun b a c d e g h i j l m o p q r s t w=>v α a d (fun z=>uq (K .normal) b a c z e g h i j l m o p q r s t w)
theorem asV:∀ (α:Type) (K:KT α),R2 vO α K=gB.unc fun σ=>az Pg azK nk ake K σ:=aZ (fun α K=>by kernel_rfl)
abbrev kG:Type 1:=(α:Type)->ae->Bool->Int->Int->Int->Bool->ae->ae->Int->Int->Int->Int->Int->Int->Int->Int->(ae->Bool->Int->Int->Int->Bool->Op α)->Op α
def OW (α:Type)(a:ae)(g:Bool)(h i j:Int)(l:Bool)(D q:ae)(r s t b c d e F:Int)(k1:ae->Bool->Int->Int->Int->Bool->Op α):Op α:=
 cK g
 (k1 a g h i j l)
 (dG D t [.int .i64,.int .i64,.int .i64,.int .i64,.int .i64,.int .i64,.int .i64,.int .i64,.int .i64]
 (fun w z A L M N O B C=>ed α q r s w z A B C b c d e
 (fun G=>cK (G == 2)
 (gK (cy 1 8 a [[DC.v (.int .i64 0)]]) (k1 (a++[[DC.v (.int .i64 0)]]) g h i j l))
 (dC α b c
 (fun m=>dC α d e
 (fun o=>jB α
 (ed α q r s w z A B C m m o o
 (fun H=>cK (H == 0)
 (k1 a true t m o l)
 (jV α b c d e
 (fun p I=>vO α F I
 (fun J=>cK J
 (k1 a g h i j true)
 (Ih α p
 (gK (cy 1 8 a [[DC.v (.int .i64 1)]]) (ea α b c d e p
 (fun P Q R T=>none)))
 (gK (cy 1 8 a [[DC.v (.int .i64 2)]]) (ea α b c d e p
 (fun U V W X=>none)))))))))))))))
def wP:kG:=sld OW
def kO:PT (List DV):=pA [pV false [(dMr [(dOs 1),dB,(dI .i64),(dI .i64),(dI .i64),dB] 0)],pV true [dL,dL,(dI .i64),(dI .i64)],vI,pV true [(dI .i64),(dI .i64),(dI .i64),(dI .i64)],vI]
def aiK (v:kG)(α:Type)(k:RT α):ae->Bool->Int->Int->Int->Bool->ae->ae->I8 (Op α):=fun a b c d e g h i j l m o p q r s=>v α a b c d e g h i j l m o p q r s (fun t w z A B C=>lz k t w z A B C)
def ayZ:ag:=(ag.put (.m [⟨gB,R2 vO⟩]) [1,1,1,1,1,1,1,0] (ag.put (.m [⟨gG,Y7 Ih⟩]) [1,1,1,1,1,1,1,1,1] (emb iJ)))
theorem aye:ak Pg 74 109 ⟨kO,aiK wP⟩:=iZ aAx (ah Tryz.func74 (by kernel_rfl)) nk ayZ ((an _ _).trans ((an _ _).trans (aA _))) (aM (by kernel_rfl) (aM (by kernel_rfl) (aD iJ) ⟨aul,trivial⟩) ⟨asV,trivial⟩) fun _ _=>by kernel_rfl
noncomputable abbrev NR:List bA:=⟨74,109,[⟨kO,aiK wP⟩]⟩::⟨128,96,[⟨Ay,Un yy⟩]⟩::ayW
theorem Pi:bG NR fun c=>bG c.l (ak Pg c.f c.nt):=⟨⟨aye,trivial⟩,⟨anm,trivial⟩,aAt⟩
def ats:aE:=aE.ofIO NR bt io0
theorem aET:ats.Ok Pg:=aE.ofIO_ok aN Pi
def akF:ag:=ag.sub [1,1,1,1,1,1,1,1,1,0] (emb iJ)
def KY (α:Type)(a:Bool)(k1:Op α)(k2:Op α):Op α:=
 cK a
 (k1)
 (k2)
def ww:bV:=sld KY
def Vh (v:bV)(α:Type)(K:KT α):Int->Int->Bool->Int->Bool->Int->Int->Int->Bool->ae->ae->ae->I6 (Op α):=fun b c a w d e g h i j l m o p q r s t=>v α a (vC (K .normal) b c a 1 d e g h i j l m o p q r s t) (vE (K .normal) b c a w a d e g h i j l m o p q r s t)
theorem auu:∀ (α:Type) (K:KT α),Vh ww α K=gG.unc fun σ=>az Pg ats nk akF K σ:=aZ (fun α K=>by kernel_rfl)
def agZ:ag:=ag.sub [1,1,1,1,1,1,1,0,0] (emb iJ)
def NH (α:Type)(a:Int)(b:Bool)(k1:Bool->Op α):Op α:=
 cK (decide (5<=a))
 (k1 true)
 (k1 (!b))
def wU:eG:=sld NH
def Tv (v:eG)(α:Type)(K:KT α):Int->Int->Bool->Bool->Bool->Int->Int->Int->Bool->ae->ae->ae->I6 (Op α):=fun b a c d e g h i j l m o p q r s t w=>v α a d (fun z=>uq (K .normal) b a c z e g h i j l m o p q r s t w)
theorem aum:∀ (α:Type) (K:KT α),Tv wU α K=gB.unc fun σ=>az Pg ats nk agZ K σ:=aZ (fun α K=>by kernel_rfl)
def azu (α:Type)(a:ae)(g:Bool)(m o p:Int)(q:Bool)(r h:ae)(i j l b c d e s:Int)(k1:ae->Bool->Int->Int->Int->Bool->Op α):Op α:=
 cK g
 (k1 a g m o p q)
 (dG r l [.int .i64,.int .i64,.int .i64,.int .i64,.int .i64,.int .i64,.int .i64,.int .i64,.int .i64]
 (fun A B C b8 b9 c0 c1 D F=>ed α h i j A B C D F b c d e
 (fun G=>cK (G == 2)
 (gK (cy 1 8 a [[DC.v (.int .i64 0)]]) (k1 (a++[[DC.v (.int .i64 0)]]) g m o p q))
 (dC α b c
 (fun t=>dC α d e
 (fun w=>jB α
 (ed α h i j A B C D F t t w w
 (fun H=>cK (H == 0)
 (k1 a true l t w q)
 (jV α b c d e
 (fun z I=>wU α s I
 (fun J=>cK J
 (k1 a g m o p true)
 (ww α z
 (gK (cy 1 8 a [[DC.v (.int .i64 1)]]) (ea α b c d e z
 (fun L M N O=>wP α (a++[[DC.v (.int .i64 1)]]) g m o p q r h i j l b L d M (w64 (s+1))
 (fun P Q R T U V=>wP α P Q R T U V r h i j l N c O e (w64 (s+1))
 (fun W X Y Z a0 a1=>k1 W X Y Z a0 a1)))))
 (gK (cy 1 8 a [[DC.v (.int .i64 2)]]) (ea α b c d e z
 (fun a2 a3 a4 a5=>wP α (a++[[DC.v (.int .i64 2)]]) g m o p q r h i j l b a2 d a3 (w64 (s+1))
 (fun a6 a7 a8 a9 b0 b1=>wP α a6 a7 a8 a9 b0 b1 r h i j l a4 c a5 e (w64 (s+1))
 (fun b2 b3 b4 b5 b6 b7=>k1 b2 b3 b4 b5 b6 b7)))))))))))))))))
def uC:kG:=sld azu
def aje (v:kG)(α:Type)(k:RT α):ae->Bool->Int->Int->Int->Bool->ae->ae->I8 (Op α):=fun a b c d e g h i j l m o p q r s=>v α a b c d e g h i j l m o p q r s (fun t w z A B C=>lz k t w z A B C)
def ay7:ag:=(ag.put (.m [⟨gB,Tv wU⟩]) [1,1,1,1,1,1,1,0] (ag.put (.m [⟨gG,Vh ww⟩]) [1,1,1,1,1,1,1,1,1] (emb iJ)))
theorem azo:ak Pg 74 109 ⟨kO,aje uC⟩:=iZ aET (ah Tryz.func74 (by kernel_rfl)) nk ay7 ((an _ _).trans ((an _ _).trans (aA _))) (aM (by kernel_rfl) (aM (by kernel_rfl) (aD iJ) ⟨auu,trivial⟩) ⟨aum,trivial⟩) fun _ _=>by kernel_rfl
def ag2:aE:=aE.ofIO (⟨74,109,[⟨kO,aje uC⟩]⟩::NR) bt io0
theorem awP:ag2.Ok Pg:=aE.ofIO_ok aN ⟨⟨azo,trivial⟩,Pi⟩
def amg:ag:=ag.sub [1,1,1,1,1,1,1,1,1,0] (emb iJ)
def Nd (α:Type)(a:Bool)(k1:Op α)(k2:Op α):Op α:=
 cK a
 (k1)
 (k2)
def tC:bV:=sld Nd
def QC (v:bV)(α:Type)(K:KT α):Int->Int->Bool->Int->Bool->Int->Int->Int->Bool->ae->ae->ae->I6 (Op α):=fun b c a w d e g h i j l m o p q r s t=>v α a (vC (K .normal) b c a 1 d e g h i j l m o p q r s t) (vE (K .normal) b c a w a d e g h i j l m o p q r s t)
theorem asD:∀ (α:Type) (K:KT α),QC tC α K=gG.unc fun σ=>az Pg ag2 nk amg K σ:=aZ (fun α K=>by kernel_rfl)
def amq:ag:=ag.sub [1,1,1,1,1,1,1,0,0] (emb iJ)
def K1 (α:Type)(a:Int)(b:Bool)(k1:Bool->Op α):Op α:=
 cK (decide (5<=a))
 (k1 true)
 (k1 (!b))
def wD:eG:=sld K1
def Xq (v:eG)(α:Type)(K:KT α):Int->Int->Bool->Bool->Bool->Int->Int->Int->Bool->ae->ae->ae->I6 (Op α):=fun b a c d e g h i j l m o p q r s t w=>v α a d (fun z=>uq (K .normal) b a c z e g h i j l m o p q r s t w)
theorem apx:∀ (α:Type) (K:KT α),Xq wD α K=gB.unc fun σ=>az Pg ag2 nk amq K σ:=aZ (fun α K=>by kernel_rfl)
def aww (α:Type)(a:ae)(g:Bool)(m o p:Int)(q:Bool)(r h:ae)(i j l b c d e s:Int)(k1:ae->Bool->Int->Int->Int->Bool->Op α):Op α:=
 cK g
 (k1 a g m o p q)
 (dG r l [.int .i64,.int .i64,.int .i64,.int .i64,.int .i64,.int .i64,.int .i64,.int .i64,.int .i64]
 (fun A B C b8 b9 c0 c1 D F=>ed α h i j A B C D F b c d e
 (fun G=>cK (G == 2)
 (gK (cy 1 8 a [[DC.v (.int .i64 0)]]) (k1 (a++[[DC.v (.int .i64 0)]]) g m o p q))
 (dC α b c
 (fun t=>dC α d e
 (fun w=>jB α
 (ed α h i j A B C D F t t w w
 (fun H=>cK (H == 0)
 (k1 a true l t w q)
 (jV α b c d e
 (fun z I=>wD α s I
 (fun J=>cK J
 (k1 a g m o p true)
 (tC α z
 (gK (cy 1 8 a [[DC.v (.int .i64 1)]]) (ea α b c d e z
 (fun L M N O=>uC α (a++[[DC.v (.int .i64 1)]]) g m o p q r h i j l b L d M (w64 (s+1))
 (fun P Q R T U V=>uC α P Q R T U V r h i j l N c O e (w64 (s+1))
 (fun W X Y Z a0 a1=>k1 W X Y Z a0 a1)))))
 (gK (cy 1 8 a [[DC.v (.int .i64 2)]]) (ea α b c d e z
 (fun a2 a3 a4 a5=>uC α (a++[[DC.v (.int .i64 2)]]) g m o p q r h i j l b a2 d a3 (w64 (s+1))
 (fun a6 a7 a8 a9 b0 b1=>uC α a6 a7 a8 a9 b0 b1 r h i j l a4 c a5 e (w64 (s+1))
 (fun b2 b3 b4 b5 b6 b7=>k1 b2 b3 b4 b5 b6 b7)))))))))))))))))
def tn:kG:=sld aww
def age (v:kG)(α:Type)(k:RT α):ae->Bool->Int->Int->Int->Bool->ae->ae->I8 (Op α):=fun a b c d e g h i j l m o p q r s=>v α a b c d e g h i j l m o p q r s (fun t w z A B C=>lz k t w z A B C)
def axt:ag:=(ag.put (.m [⟨gB,Xq wD⟩]) [1,1,1,1,1,1,1,0] (ag.put (.m [⟨gG,QC tC⟩]) [1,1,1,1,1,1,1,1,1] (emb iJ)))
theorem aze:ak Pg 74 109 ⟨kO,age tn⟩:=iZ awP (ah Tryz.func74 (by kernel_rfl)) nk axt ((an _ _).trans ((an _ _).trans (aA _))) (aM (by kernel_rfl) (aM (by kernel_rfl) (aD iJ) ⟨asD,trivial⟩) ⟨apx,trivial⟩) fun _ _=>by kernel_rfl
def ais:aE:=aE.ofIO (⟨74,109,[⟨kO,age tn⟩]⟩::NR) bt io0
theorem ay6:ais.Ok Pg:=aE.ofIO_ok aN ⟨⟨aze,trivial⟩,Pi⟩
def aj3:ag:=ag.sub [1,1,1,1,1,1,1,1,1,0] (emb iJ)
def L7 (α:Type)(a:Bool)(k1:Op α)(k2:Op α):Op α:=
 cK a
 (k1)
 (k2)
def uo:bV:=sld L7
def Ue (v:bV)(α:Type)(K:KT α):Int->Int->Bool->Int->Bool->Int->Int->Int->Bool->ae->ae->ae->I6 (Op α):=fun b c a w d e g h i j l m o p q r s t=>v α a (vC (K .normal) b c a 1 d e g h i j l m o p q r s t) (vE (K .normal) b c a w a d e g h i j l m o p q r s t)
theorem aq6:∀ (α:Type) (K:KT α),Ue uo α K=gG.unc fun σ=>az Pg ais nk aj3 K σ:=aZ (fun α K=>by kernel_rfl)
def ahP:ag:=ag.sub [1,1,1,1,1,1,1,0,0] (emb iJ)
def Lf (α:Type)(a:Int)(b:Bool)(k1:Bool->Op α):Op α:=
 cK (decide (5<=a))
 (k1 true)
 (k1 (!b))
def uF:eG:=sld Lf
def S8 (v:eG)(α:Type)(K:KT α):Int->Int->Bool->Bool->Bool->Int->Int->Int->Bool->ae->ae->ae->I6 (Op α):=fun b a c d e g h i j l m o p q r s t w=>v α a d (fun z=>uq (K .normal) b a c z e g h i j l m o p q r s t w)
theorem aok:∀ (α:Type) (K:KT α),S8 uF α K=gB.unc fun σ=>az Pg ais nk ahP K σ:=aZ (fun α K=>by kernel_rfl)
def awQ (α:Type)(a:ae)(g:Bool)(m o p:Int)(q:Bool)(r h:ae)(i j l b c d e s:Int)(k1:ae->Bool->Int->Int->Int->Bool->Op α):Op α:=
 cK g
 (k1 a g m o p q)
 (dG r l [.int .i64,.int .i64,.int .i64,.int .i64,.int .i64,.int .i64,.int .i64,.int .i64,.int .i64]
 (fun A B C b8 b9 c0 c1 D F=>ed α h i j A B C D F b c d e
 (fun G=>cK (G == 2)
 (gK (cy 1 8 a [[DC.v (.int .i64 0)]]) (k1 (a++[[DC.v (.int .i64 0)]]) g m o p q))
 (dC α b c
 (fun t=>dC α d e
 (fun w=>jB α
 (ed α h i j A B C D F t t w w
 (fun H=>cK (H == 0)
 (k1 a true l t w q)
 (jV α b c d e
 (fun z I=>uF α s I
 (fun J=>cK J
 (k1 a g m o p true)
 (uo α z
 (gK (cy 1 8 a [[DC.v (.int .i64 1)]]) (ea α b c d e z
 (fun L M N O=>tn α (a++[[DC.v (.int .i64 1)]]) g m o p q r h i j l b L d M (w64 (s+1))
 (fun P Q R T U V=>tn α P Q R T U V r h i j l N c O e (w64 (s+1))
 (fun W X Y Z a0 a1=>k1 W X Y Z a0 a1)))))
 (gK (cy 1 8 a [[DC.v (.int .i64 2)]]) (ea α b c d e z
 (fun a2 a3 a4 a5=>tn α (a++[[DC.v (.int .i64 2)]]) g m o p q r h i j l b a2 d a3 (w64 (s+1))
 (fun a6 a7 a8 a9 b0 b1=>tn α a6 a7 a8 a9 b0 b1 r h i j l a4 c a5 e (w64 (s+1))
 (fun b2 b3 b4 b5 b6 b7=>k1 b2 b3 b4 b5 b6 b7)))))))))))))))))
def tA:kG:=sld awQ
def aem (v:kG)(α:Type)(k:RT α):ae->Bool->Int->Int->Int->Bool->ae->ae->I8 (Op α):=fun a b c d e g h i j l m o p q r s=>v α a b c d e g h i j l m o p q r s (fun t w z A B C=>lz k t w z A B C)
def ayc:ag:=(ag.put (.m [⟨gB,S8 uF⟩]) [1,1,1,1,1,1,1,0] (ag.put (.m [⟨gG,Ue uo⟩]) [1,1,1,1,1,1,1,1,1] (emb iJ)))
theorem axN:ak Pg 74 109 ⟨kO,aem tA⟩:=iZ ay6 (ah Tryz.func74 (by kernel_rfl)) nk ayc ((an _ _).trans ((an _ _).trans (aA _))) (aM (by kernel_rfl) (aM (by kernel_rfl) (aD iJ) ⟨aq6,trivial⟩) ⟨aok,trivial⟩) fun _ _=>by kernel_rfl
def agI:aE:=aE.ofIO (⟨74,109,[⟨kO,aem tA⟩]⟩::NR) bt io0
theorem azx:agI.Ok Pg:=aE.ofIO_ok aN ⟨⟨axN,trivial⟩,Pi⟩
def ahk:ag:=ag.sub [1,1,1,1,1,1,1,1,1,0] (emb iJ)
def NM (α:Type)(a:Bool)(k1:Op α)(k2:Op α):Op α:=
 cK a
 (k1)
 (k2)
def vD:bV:=sld NM
def Vm (v:bV)(α:Type)(K:KT α):Int->Int->Bool->Int->Bool->Int->Int->Int->Bool->ae->ae->ae->I6 (Op α):=fun b c a w d e g h i j l m o p q r s t=>v α a (vC (K .normal) b c a 1 d e g h i j l m o p q r s t) (vE (K .normal) b c a w a d e g h i j l m o p q r s t)
theorem apX:∀ (α:Type) (K:KT α),Vm vD α K=gG.unc fun σ=>az Pg agI nk ahk K σ:=aZ (fun α K=>by kernel_rfl)
def adM:ag:=ag.sub [1,1,1,1,1,1,1,0,0] (emb iJ)
def K3 (α:Type)(a:Int)(b:Bool)(k1:Bool->Op α):Op α:=
 cK (decide (5<=a))
 (k1 true)
 (k1 (!b))
def vu:eG:=sld K3
def Qc (v:eG)(α:Type)(K:KT α):Int->Int->Bool->Bool->Bool->Int->Int->Int->Bool->ae->ae->ae->I6 (Op α):=fun b a c d e g h i j l m o p q r s t w=>v α a d (fun z=>uq (K .normal) b a c z e g h i j l m o p q r s t w)
theorem aqq:∀ (α:Type) (K:KT α),Qc vu α K=gB.unc fun σ=>az Pg agI nk adM K σ:=aZ (fun α K=>by kernel_rfl)
def aw8 (α:Type)(a:ae)(g:Bool)(m o p:Int)(q:Bool)(r h:ae)(i j l b c d e s:Int)(k1:ae->Bool->Int->Int->Int->Bool->Op α):Op α:=
 cK g
 (k1 a g m o p q)
 (dG r l [.int .i64,.int .i64,.int .i64,.int .i64,.int .i64,.int .i64,.int .i64,.int .i64,.int .i64]
 (fun A B C b8 b9 c0 c1 D F=>ed α h i j A B C D F b c d e
 (fun G=>cK (G == 2)
 (gK (cy 1 8 a [[DC.v (.int .i64 0)]]) (k1 (a++[[DC.v (.int .i64 0)]]) g m o p q))
 (dC α b c
 (fun t=>dC α d e
 (fun w=>jB α
 (ed α h i j A B C D F t t w w
 (fun H=>cK (H == 0)
 (k1 a true l t w q)
 (jV α b c d e
 (fun z I=>vu α s I
 (fun J=>cK J
 (k1 a g m o p true)
 (vD α z
 (gK (cy 1 8 a [[DC.v (.int .i64 1)]]) (ea α b c d e z
 (fun L M N O=>tA α (a++[[DC.v (.int .i64 1)]]) g m o p q r h i j l b L d M (w64 (s+1))
 (fun P Q R T U V=>tA α P Q R T U V r h i j l N c O e (w64 (s+1))
 (fun W X Y Z a0 a1=>k1 W X Y Z a0 a1)))))
 (gK (cy 1 8 a [[DC.v (.int .i64 2)]]) (ea α b c d e z
 (fun a2 a3 a4 a5=>tA α (a++[[DC.v (.int .i64 2)]]) g m o p q r h i j l b a2 d a3 (w64 (s+1))
 (fun a6 a7 a8 a9 b0 b1=>tA α a6 a7 a8 a9 b0 b1 r h i j l a4 c a5 e (w64 (s+1))
 (fun b2 b3 b4 b5 b6 b7=>k1 b2 b3 b4 b5 b6 b7)))))))))))))))))
def pH:kG:=sld aw8
def adP (v:kG)(α:Type)(k:RT α):ae->Bool->Int->Int->Int->Bool->ae->ae->I8 (Op α):=fun a b c d e g h i j l m o p q r s=>v α a b c d e g h i j l m o p q r s (fun t w z A B C=>lz k t w z A B C)
def axh:ag:=(ag.put (.m [⟨gB,Qc vu⟩]) [1,1,1,1,1,1,1,0] (ag.put (.m [⟨gG,Vm vD⟩]) [1,1,1,1,1,1,1,1,1] (emb iJ)))
theorem awB:ak Pg 74 109 ⟨kO,adP pH⟩:=iZ azx (ah Tryz.func74 (by kernel_rfl)) nk axh ((an _ _).trans ((an _ _).trans (aA _))) (aM (by kernel_rfl) (aM (by kernel_rfl) (aD iJ) ⟨apX,trivial⟩) ⟨aqq,trivial⟩) fun _ _=>by kernel_rfl
def JQ:PT St:=pSv [(0,500000000,0)] [sl 0 (aV false [(cB 500000000 0)]),sI 2,sI 4,sP 6,sP 8,sl 12 (aV false [(cD dB)]),sl 13 (aV false [(cD dB)])] [au 500000000 [Oy,(cD dB),xI,xI,xI,(cD dB)],au 6 [(cD dL),(cD dL),xI,xI],au 8 (xs 4)]
def aIz {β:Type}(g:St->β):Int->Int->Bool->Bool->Bool->Int->Int->Int->Bool->ae->ae->I6 β:=JQ.unc g
def atC:PT St:=pSv [(0,500000000,0)] [sl 0 (aV false [(cB 500000000 0)]),sI 2,sI 4,sP 6,sP 8,sl 12 (aV false [(cD dB)]),sl 74 (aV false [(cD dB)])] [au 500000000 [Oy,(cD dB),xI,xI,xI,(cD dB)],au 6 [(cD dL),(cD dL),xI,xI],au 8 (xs 4)]
def ard {β:Type}(g:St->β):Int->Int->Bool->Bool->Bool->Int->Int->Int->Bool->ae->ae->I6 β:=atC.unc g
def Iy:PT St:=pSv [(0,500000000,0)] [sl 0 (aV false [(cB 500000000 0)]),sI 2,sI 4,sP 6,sP 8,sl 12 (aV false [(cD dB)]),sI 14] [au 500000000 [Oy,(cD dB),xI,xI,xI,(cD dB)],au 6 [(cD dL),(cD dL),xI,xI],au 8 (xs 4)]
def anP {β:Type}(g:St->β):Int->Int->Bool->Int->Bool->Int->Int->Int->Bool->ae->ae->I6 β:=Iy.unc g
def amL:PT St:=pSv [(0,500000000,0)] [sl 0 (aV false [(cB 500000000 0)]),sI 2,sI 4,sP 6,sP 8,sl 12 (aV false [(cD dB)]),sI 14,sl 78 (aV false [(cD dB)])] [au 500000000 [Oy,(cD dB),xI,xI,xI,(cD dB)],au 6 [(cD dL),(cD dL),xI,xI],au 8 (xs 4)]
def amJ {β:Type}(g:St->β):Int->Int->Bool->Int->Bool->Bool->Int->Int->Int->Bool->ae->ae->I6 β:=amL.unc g
def aiU:PT (List RV):=pRs [pR true [rD dL,rD dB,rD (dI .i64),rD (dI .i64),rD (dI .i64),rD dB]]
def aho {β:Type}(g:List RV->β):ae->Bool->Int->Int->Int->Bool->β:=aiU.unc g
def akz:aE:=aE.ofIO (⟨74,109,[⟨kO,adP pH⟩]⟩::NR) bt io0
theorem azF:akz.Ok Pg:=aE.ofIO_ok aN ⟨⟨awB,trivial⟩,Pi⟩
def aiW:ag:=ag.sub [1,1,1,1,1,1,1,1,1,0] (emb iJ)
def N3 (α:Type)(a:Bool)(k1:Op α)(k2:Op α):Op α:=
 cK a
 (k1)
 (k2)
def zE:bV:=sld N3
def X6 (v:bV)(α:Type)(K:KT α):Int->Int->Bool->Int->Bool->Int->Int->Int->Bool->ae->ae->I6 (Op α):=fun b c a t d e g h i j l m o p q r s=>v α a (anP (K .normal) b c a 1 d e g h i j l m o p q r s) (amJ (K .normal) b c a t a d e g h i j l m o p q r s)
theorem auk:∀ (α:Type) (K:KT α),X6 zE α K=Iy.unc fun σ=>az Pg akz nk aiW K σ:=aZ (fun α K=>by kernel_rfl)
def aif:ag:=ag.sub [1,1,1,1,1,1,1,0,0] (emb iJ)
def Lm (α:Type)(a:Int)(b:Bool)(k1:Bool->Op α):Op α:=
 cK (decide (5<=a))
 (k1 true)
 (k1 (!b))
def wG:eG:=sld Lm
def SA (v:eG)(α:Type)(K:KT α):Int->Int->Bool->Bool->Bool->Int->Int->Int->Bool->ae->ae->I6 (Op α):=fun b a c d e g h i j l m o p q r s t=>v α a d (fun w=>ard (K .normal) b a c w e g h i j l m o p q r s t)
theorem ana:∀ (α:Type) (K:KT α),SA wG α K=JQ.unc fun σ=>az Pg akz nk aif K σ:=aZ (fun α K=>by kernel_rfl)
abbrev ahH:Type 1:=(α:Type)->Bool->Int->Int->Int->Bool->ae->ae->Int->Int->Int->Int->Int->Int->Int->Int->(Bool->Int->Int->Int->Bool->Op α)->(ae->Bool->Int->Int->Int->Bool->Op α)->Op α
def adU (α:Type)(e:Bool)(l m o:Int)(p:Bool)(q g:ae)(h i j a b c d r:Int)(k1:Bool->Int->Int->Int->Bool->Op α)(k2:ae->Bool->Int->Int->Int->Bool->Op α):Op α:=
 cK e
 (k1 e l m o p)
 (dG q j [.int .i64,.int .i64,.int .i64,.int .i64,.int .i64,.int .i64,.int .i64,.int .i64,.int .i64]
 (fun z A B b7 b8 b9 c0 C D=>ed α g h i z A B C D a b c d
 (fun F=>cK (F == 2)
 (k2 [[DC.v (.int .i64 0)]] e l m o p)
 (dC α a b
 (fun s=>dC α c d
 (fun t=>jB α
 (ed α g h i z A B C D s s t t
 (fun G=>cK (G == 0)
 (k1 true j s t p)
 (jV α a b c d
 (fun w H=>wG α r H
 (fun I=>cK I
 (k1 e l m o true)
 (zE α w
 (ea α a b c d w
 (fun J L M N=>pH α [[DC.v (.int .i64 1)]] e l m o p q g h i j a J c L (w64 (r+1))
 (fun O P Q R T U=>pH α O P Q R T U q g h i j M b N d (w64 (r+1))
 (fun V W X Y Z a0=>k2 V W X Y Z a0))))
 (ea α a b c d w
 (fun a1 a2 a3 a4=>pH α [[DC.v (.int .i64 2)]] e l m o p q g h i j a a1 c a2 (w64 (r+1))
 (fun a5 a6 a7 a8 a9 b0=>pH α a5 a6 a7 a8 a9 b0 q g h i j a3 b a4 d (w64 (r+1))
 (fun b1 b2 b3 b4 b5 b6=>k2 b1 b2 b3 b4 b5 b6))))))))))))))))
def Ll:ahH:=sld adU
def ahs:PT (List DV):=pA [pV false [(dMr [dON,dB,(dI .i64),(dI .i64),(dI .i64),dB] 0)],pV true [dL,dL,(dI .i64),(dI .i64)],vI,pV true [(dI .i64),(dI .i64),(dI .i64),(dI .i64)],vI]
def ag5 (v:ahH)(α:Type)(k:RT α):Bool->Int->Int->Int->Bool->ae->ae->I8 (Op α):=fun g h i j l m o p q r s t w z A=>v α g h i j l m o p q r s t w z A (fun a b c d e=>aho k ([]:ae) a b c d e) (fun a b c d e B=>lz k a b c d e B)
def awz:ag:=(ag.put (.m [⟨JQ,SA wG⟩]) [1,1,1,1,1,1,1,0] (ag.put (.m [⟨Iy,X6 zE⟩]) [1,1,1,1,1,1,1,1,1] (emb iJ)))
theorem awR:ak Pg 74 109 ⟨ahs,ag5 Ll⟩:=iZ azF (ah Tryz.func74 (by kernel_rfl)) nk awz ((an _ _).trans ((an _ _).trans (aA _))) (aM (by kernel_rfl) (aM (by kernel_rfl) (aD iJ) ⟨auk,trivial⟩) ⟨ana,trivial⟩) fun _ _=>by kernel_rfl
end
end Go.AM.K
