/- Printed by KGen. -/
import Derived.Test.YtnhkllkecbmchaaGreatDoorXC1
namespace Go.AM.K
open Go.Proofs
set_option maxRecDepth 100000
set_option linter.unusedVariables false
noncomputable section
abbrev nt75:Nat:=39
def sh75:SG:=[(9,[.str,.int .i64,.int .i64,.int .i64,.int .i64,.int .i64,.int .i64,.int .i64,.int .i64,.int .i64]),(19,iT),(22,iT),(27,iT),(30,iT),(33,[.bool]),(38,iS 2)]
def r75_2:LA:=[oO 1 (.box (.tmp 0)),oO 2 (.alloc [(cI 0),(cI 0)]),mK 3 0]
def r75_5:LA:=[lA 9 10 1,oO 10 (.call 82 [.tmp 9]),oM 4 10]
def r75_7:LA:=[oM 11 4,oO 12 (.bin .neq 28 (.tmp 11) (kI 0))]
def r75_10:LA:=[oO 13 (.build [(cI 0),(cI 0)] []),oM 14 4,sD 2 2 13,oM 3 14]
def r75_12:LA:=[oO 15 (.build [(cI 0),(cI 0)] [(0,1,(kI 0)),(1,1,(kI 1024))]),oO 5 (.alloc [(cI 0),(cI 0)]),sD 2 5 15]
def r75_14:LA:=[oO 6 (.alloc [(.d (.v (.bool false)))]),oD (.store 1 (.tmp 6) (.const (.bool false)))]
def td75_17:OT:=(tO [1,2,3,5,6])
def r75_19:LA:=[oM 7 16]
def r75_20:LA:=[oO 8 (.alloc [(cI 0),(cI 0)]),sD 2 8 17]
def r75_24:LA:=[fA 18 0 8,lD 19 18,fA 20 4 1,fA 21 1 20,lD 22 21,bT 23 .geq 19 22]
def r75_26:LA:=[oM 24 7,fA 25 0 5,sD 1 25 24]
def r75_28:LA:=[fA 26 1 8,lD 27 26,fA 28 4 1,fA 29 0 28,lD 30 29,bT 31 .leq 27 30,oM 32 31,oG 33 (.load false 1 (.tmp 6)) 32 true,oG 34 (.pure (oB (.unOp .not 4 (.tmp 33)) 4)) 32 true,oO 35 (.pick (.tmp 32) (.tmp 34) (.const (.bool false)))]
def r75_30:LA:=[oM 36 7,fA 37 1 5,sD 1 37 36,oD (.store 1 (.tmp 6) (.const (.bool true)))]
def r75_32:LA:=[lA 38 2 5,sD 2 2 38,mK 3 0]
def tr75:TG:=[tT 0 [1,2,3],tT 1 [1,2,3,4],tT 2 [1,2,3,4,12],tT 3 [2,3],tT 4 [1,2,3,5],tT 5 [1,2,3,5,6],tT 6 [1,2,3,5,6,7,17],tT 7 [1,2,3,5,6,7,8],tT 8 [1,2,3,5,6,7,8,23],tT 9 [1,2,3,5,6,7,8],tT 10 [1,2,3,5,6,7,35],tT 11 [1,2,3,5,6],tT 12 [2,3]]
def tl75:TG:=[tT 8 [1,2,3,5,6]]
def rs75:List AResV:=[.cell 2 true 2,.tmp 3]
def p75_0_0:PT St:=pS [sP 1,sP 2,sI 3,sP 5,sP 6] [eBox 1 [(cD dS),xI,xI,xI,xI,xI,xI,xI,xI,xI],eBox 2 [xI,xI],eBox 5 [xI,xI],eBox 6 [(cD dB)]]
def u75_0_0 {β:Type}(g:St->β):Int->BA->Int->Int->Int->Int->Int->Int->Int->Int->Int->Int->Int->Int->Int->Bool->β:=p75_0_0.unc g
def pr75_0_0:PT (List RV):=pRs [pR true [rD (dI .i64),rD (dI .i64)],wI]
def ur75_0_0 {β:Type}(g:List RV->β):Int->Int->Int->β:=pr75_0_0.unc g
def E75_0g (a:Tf82_0)(vq170:Tq170):EnvK:=EnvK.of [⟨82,nt82,[⟨pa82_0,Fn82_0 a⟩]⟩] (seqE [⟨170,pq170,vq170⟩])
def E75_0:EnvK:=E75_0g f82_0 q170
theorem eo75_0:E75_0.Ok Pg:=EnvK.of_ok (seqE_ok (l:=[⟨170,pq170,q170⟩]) ⟨sqok170,TT⟩) ⟨⟨io82_0,TT⟩,TT⟩
def ca75_0_17:MCode:=(.seq (.region r75_19 [] (tO [1,2,3,5,6,7,17])) (.region r75_20 [] (tO [1,2,3,5,6,7,8])))
theorem ga75_0_17:ca75_0_17.Good Pg E75_0 sh75:=⟨TT,TT⟩
def c75_0_17g:MCode:=(.block 1 (.seq (.seq (.region r75_24 [] (tO [1,2,3,5,6,7,8,23])) (.cond (.tmp 23) (.region r75_26 [] (tO [1,2,3,5,6,7,8])) .skip)) (.seq (.region r75_28 [] (tO [1,2,3,5,6,7,35])) (.cond (.tmp 35) (.region r75_30 [] (tO [1,2,3,5,6])) .skip))))
def c75_0_17:MCode:=c75_0_17g
theorem g75_0_17:c75_0_17.Good Pg E75_0 sh75:=⟨⟨TT,TT,TT⟩,TT,TT,TT⟩
def S75_0_0g (α:Type)(e g:Int)(a:Int × Int × Int)(d c:Int)(b:Bool)(kn:Int->Int->Bool->Op α)(k1:Int->Int->Bool->Op α):Op α:=
 cK (decide (g<=a.2.1))
 (cK (decide (a.2.2<=e))
 (cK (!b)
 (kn a.1 a.1 true)
 (kn a.1 c b))
 (kn a.1 c b))
 (cK (decide (a.2.2<=e))
 (cK (!b)
 (kn d a.1 true)
 (kn d c b))
 (kn d c b))
def S75_0_0 (α:Type)(a b:Int)(c:Int × Int × Int)(d e:Int)(g:Bool)(kn:Int->Int->Bool->Op α)(k1:Int->Int->Bool->Op α):Op α:=S75_0_0g α a b c d e g kn k1
def V75_0_0 (α:Type)(d e:Int)(k1:Int->Int->Bool->Op α):List (Int × Int × Int)->Int->Int->Bool->Op α
 | [],a,b,c=>k1 a b c
 | g::ys,a,b,c=>S75_0_0 α d e g a b c (V75_0_0 α d e k1 ys) k1
abbrev TV75_0_0:Type 1:=(α:Type)->Int->Int->(Int->Int->Bool->Op α)->List (Int × Int × Int)->Int->Int->Bool->Op α
def F75_0_0 (v:TV75_0_0)(α:Type)(K:KT α)(ys:List (Int × Int × Int)):Int->BA->I13 (Bool->Op α):=fun c d e g h a b i j l m o p q r s=>v α a b (fun t w z=>u75_0_0 (K .normal) c d e g h a b i j l m o p t w z) ys q r s
theorem r75_0_0g (t:Tf82_0)(vq170:Tq170)(α:Type)(K:KT α)(Kn:SK α)(w:Int × Int × Int)(g:Int)(h:BA)(i j l a b m o p q r s c d:Int)(e:Bool):u75_0_0 (fun σ=>roundT (runM Pg (E75_0g t vq170) sh75 ca75_0_17) (runM Pg (E75_0g t vq170) sh75 c75_0_17) [16,17] td75_17 Kn K (xIP.ex w) σ) g h i j l a b m o p q r s c d e=S75_0_0g α a b w c d e (fun c d e=>u75_0_0 Kn g h i j l a b m o p q r s c d e) (fun z A B=>u75_0_0 (K .normal) g h i j l a b m o p q r s z A B):=by kernel_rfl
theorem r75_0_0 (α:Type)(K:KT α)(Kn:SK α)(t:Int × Int × Int)(g:Int)(h:BA)(i j l a b m o p q r s c d:Int)(e:Bool):u75_0_0 (fun σ=>roundT (runM Pg E75_0 sh75 ca75_0_17) (runM Pg E75_0 sh75 c75_0_17) [16,17] td75_17 Kn K (xIP.ex t) σ) g h i j l a b m o p q r s c d e=S75_0_0 α a b t c d e (fun c d e=>u75_0_0 Kn g h i j l a b m o p q r s c d e) (fun w z A=>u75_0_0 (K .normal) g h i j l a b m o p q r s w z A):=r75_0_0g f82_0 q170 α K Kn t g h i j l a b m o p q r s c d e
theorem t75_0_0 (α:Type)(K:KT α):∀ (ys:List (Int × Int × Int)) (g:Int) (h:BA) (i j l a b m o p q r s c d:Int) (e:Bool),V75_0_0 α a b (fun t w z=>u75_0_0 (K .normal) g h i j l a b m o p q r s t w z) ys c d e=u75_0_0 (roundsK (runM Pg E75_0 sh75 ca75_0_17) (runM Pg E75_0 sh75 c75_0_17) [16,17] td75_17 K (ys.map xIP.ex)) g h i j l a b m o p q r s c d e:=by
 intro ys
 induction ys with
 | nil=>intros;rfl
 | cons A ys ih=>intro g h i j l a b m o p q r s c d e;exact (congrArg (fun kn=>S75_0_0 α a b A c d e kn (fun t w z=>u75_0_0 (K .normal) g h i j l a b m o p q r s t w z)) (funext fun c=>funext fun d=>funext fun e=>ih g h i j l a b m o p q r s c d e)).trans (r75_0_0 α K (roundsK (runM Pg E75_0 sh75 ca75_0_17) (runM Pg E75_0 sh75 c75_0_17) [16,17] td75_17 K (ys.map xIP.ex)) A g h i j l a b m o p q r s c d e).symm
theorem m75_0_0:∀ (α:Type) (K:KT α) (ys:List (Int × Int × Int)),F75_0_0 V75_0_0 α K ys=p75_0_0.unc fun σ=>roundsK (runM Pg E75_0 sh75 ca75_0_17) (runM Pg E75_0 sh75 c75_0_17) [16,17] td75_17 K (ys.map xIP.ex) σ:=fun α K ys=>by funext a b c d e g h i j l m o p q r s;exact t75_0_0 α K ys a b c d e g h i j l m o p q r s
abbrev Tf75_0:Type 1:=(α:Type)->BA->Int->Int->Int->Int->Int->Int->Int->Int->Int->(Int->Int->Int->Op α)->Op α
def f75_0g (vV75_0_0:TV75_0_0)(d:Tf82_0)(vq170:Tq170)(α:Type)(e:BA)(g h i a b j l m o:Int)(k1:Int->Int->Int->Op α):Op α:=
 d α e g h i a b j l m o
 (fun c=>cK (c != 0)
 (k1 0 0 c)
 (qK vq170 xIP fun p=>vV75_0_0 α a b
 (fun q r s=>k1 q r 0) p 0 1024 false))
def f75_0 (α:Type)(a:BA)(b c d e g h i j l:Int)(k1:Int->Int->Int->Op α):Op α:=f75_0g V75_0_0 f82_0 q170 α a b c d e g h i j l k1
def pa75_0:PT (List DV):=pA [pV true [dS,(dI .i64),(dI .i64),(dI .i64),(dI .i64),(dI .i64),(dI .i64),(dI .i64),(dI .i64),(dI .i64)]]
def Fn75_0 (v:Tf75_0)(α:Type)(k:RT α):BA->I9 (Op α):=fun a b c d e g h i j l=>v α a b c d e g h i j l (fun m o p=>ur75_0_0 k m o p)
def cm75_0g (vV75_0_0:TV75_0_0):MCode:=(.seq (.region r75_2 [] (tO [1,2,3])) (.seq (.seq (.region r75_5 [] (tO [1,2,3,4])) (.seq (.region r75_7 [] (tO [1,2,3,4,12])) (.cond (.tmp 12) (.seq (.region r75_10 [] (tO [2,3])) .ret) .skip))) (.seq (.region r75_12 [] (tO [1,2,3,5])) (.seq (.region r75_14 [] (tO [1,2,3,5,6])) (.seq (.block 0 (.rangeF (.func 170) [16,17] td75_17 [⟨xIP,p75_0_0,F75_0_0 vV75_0_0⟩] ca75_0_17 c75_0_17)) (.seq (.region r75_32 [] (tO [2,3])) .ret))))))
def cm75_0:MCode:=cm75_0g V75_0_0
theorem gm75_0:cm75_0.Good Pg E75_0 sh75:=⟨TT,⟨TT,TT,⟨TT,TT⟩,TT⟩,TT,TT,⟨⟨ga75_0_17,g75_0_17⟩,m75_0_0,TT⟩,TT,TT⟩
theorem fm75_0g (a:Tf82_0)(vq170:Tq170)(vV75_0_0:TV75_0_0)(α:Type)(k:RT α):Fn75_0 (f75_0g vV75_0_0 a vq170) α k=pa75_0.unc fun ds=>fnM Pg (E75_0g a vq170) sh75 (cm75_0g vV75_0_0) rs75 k ds:=by kernel_rfl
theorem fm75_0:∀ (α:Type) (k:RT α),Fn75_0 f75_0 α k=pa75_0.unc fun ds=>fnM Pg E75_0 sh75 cm75_0 rs75 k ds:=fm75_0g f82_0 q170 V75_0_0
theorem is75:FnIs Pg 75 nt75 tr75 tl75 cm75_0.erase rs75:=⟨Tryz.f75,Tryz.func75,rfl,by kernel_rfl,by kernel_rfl,by kernel_rfl⟩
theorem io75_0:InstOk Pg 75 nt75 ⟨pa75_0,Fn75_0 f75_0⟩:=inst_ok eo75_0 followsTry is75 ⟨⟨sh75,cm75_0,by kernel_rfl,gm75_0,fm75_0⟩⟩
end
end Go.AM.K
