/- Printed by KGen. -/
import Derived.Test.YtamjfkiklngagaaGreatRw
namespace Go.AM.K
open Go.Proofs
set_option maxRecDepth 100000
set_option linter.unusedVariables false
noncomputable section
abbrev nt3:Nat:=104
def sh3:SG:=[(13,[.sl,.sl,.int .i64,.int .i64]),(18,[.sl]),(23,[.sl,.sl,.int .i64,.int .i64]),(30,iS 2),(34,[.sl]),(35,iS 9),(36,iS 9),(39,iT),(41,iS 2),(43,iT),(45,iS 2),(47,[.sl]),(49,iS 2),(58,iS 6),(60,iT),(62,iS 2),(67,iT),(73,iT),(77,[.sl,.sl,.int .i64,.int .i64]),(80,iT),(84,iT),(89,iS 9),(93,[.sl,.sl,.int .i64,.int .i64])]
def tr3:TG:=[tT 0 [1],tT 1 [1,12],tT 2 [2],tT 3 [1,21],tT 4 [2],tT 5 [1,3,4],tT 6 [1,3,29],tT 7 [2],tT 8 [1,3,5],tT 9 [1,3,5,6,7],tT 10 [1,3,5,76],tT 11 [2],tT 12 [3,5,8],tT 13 [5,8],tT 14 [8],tT 15 [9,10],tT 16 [2]]
def tl3:TG:=[]
def ac3:ACode:=codeF Pg Tryz.f3 tr3 tl3
def rs3:List AResV:=resF Pg Tryz.f3
def pr3_0_0:PT (List RV):=pRs [pR false [rD dB]]
def ur3_0_0 {β:Type}(g:List RV->β):Bool->β:=pr3_0_0.unc g
def E3_0g (a:Tf4_0)(b:Tf5_0)(c:Tf7_0)(d:Tf6_0)(e:Tf9_0)(g:Tf8_0)(h:Tf10_0)(i:Tf11_0)(j:Tf12_0)(l:Tf13_0)(m:Tf14_0):EnvK:=EnvK.of [⟨4,nt4,[⟨pa4_0,Fn4_0 a⟩]⟩,⟨5,nt5,[⟨pa5_0,Fn5_0 b⟩]⟩,⟨7,nt7,[⟨pa7_0,Fn7_0 c⟩]⟩,⟨6,nt6,[⟨pa6_0,Fn6_0 d⟩]⟩,⟨9,nt9,[⟨pa9_0,Fn9_0 e⟩]⟩,⟨8,nt8,[⟨pa8_0,Fn8_0 g⟩]⟩,⟨10,nt10,[⟨pa10_0,Fn10_0 h⟩]⟩,⟨11,nt11,[⟨pa11_0,Fn11_0 i⟩]⟩,⟨12,nt12,[⟨pa12_0,Fn12_0 j⟩]⟩,⟨13,nt13,[⟨pa13_0,Fn13_0 l⟩]⟩,⟨14,nt14,[⟨pa14_0,Fn14_0 m⟩]⟩] noSeq
def E3_0:EnvK:=E3_0g f4_0 f5_0 f7_0 f6_0 f9_0 f8_0 f10_0 f11_0 f12_0 f13_0 f14_0
theorem eo3_0:E3_0.Ok Pg:=EnvK.of_ok noSeq_ok ⟨⟨io4_0,TT⟩,⟨io5_0,TT⟩,⟨io7_0,TT⟩,⟨io6_0,TT⟩,⟨io9_0,TT⟩,⟨io8_0,TT⟩,⟨io10_0,TT⟩,⟨io11_0,TT⟩,⟨io12_0,TT⟩,⟨io13_0,TT⟩,⟨io14_0,TT⟩,TT⟩
abbrev Tf3_0:Type 1:=(α:Type)->Rows->Rows->Int->Int->(Bool->Op α)->Op α
def f3_0g (s:Tf10_0)(h:Tf11_0)(t:Tf12_0)(w:Tf13_0)(z:Tf14_0)(A:Tf4_0)(B:Tf5_0)(C:Tf6_0)(i:Tf7_0)(D:Tf8_0)(F:Tf9_0)(α:Type)(a b:Rows)(e g:Int)(k1:Bool->Op α):Op α:=
 A α
 (B α a b
 (fun G=>cK (!G)
 (k1 true)
 (cK (((List.length a:Nat):Int) == 0)
 (k1 true)
 (i α a b
 (fun H I=>C α H I e g
 (fun c d J=>cK (J != 0)
 (k1 ((c == 0) && ((d == 0) && true)))
 (rowK a 0 [.int .i64,.int .i64,.int .i64,.int .i64,.int .i64,.int .i64,.int .i64,.int .i64,.int .i64]
 (fun j l m o p q r a3 a4=>F α b
 (fun L=>D α m o p l q r L e g
 (fun M N O P Q R T=>cK (T != 0)
 (k1 false)
 (s α M N O P Q R j
 (fun U V=>cK (!((U == c) && ((V == d) && true)))
 (k1 false)
 (h α c 0 1048576
 (fun W=>cK (!W)
 (k1 false)
 (h α d 0 1048576
 (fun X=>cK (!X)
 (k1 false)
 (i α a b
 (fun a5 Y=>t α (w64 (c*10000)) 1048576
 (fun Z=>w α (w64 (d*10000)) 1048576
 (fun a0=>z α [[DC.v (.int .i64 j),DC.v (.int .i64 l),DC.v (.int .i64 m),DC.v (.int .i64 o),DC.v (.int .i64 p),DC.v (.int .i64 q),DC.v (.int .i64 r),DC.v (.int .i64 Z),DC.v (.int .i64 a0)]] Y e g 0 [[DC.v (.int .i64 0)]]
 (fun a1 a2=>cK (a2 == 0)
 (k1 (a1 == 1))
 (k1 false))))))))))))))))))))))
def f3_0 (α:Type)(a b:Rows)(c d:Int)(k1:Bool->Op α):Op α:=f3_0g f10_0 f11_0 f12_0 f13_0 f14_0 f4_0 f5_0 f6_0 f7_0 f8_0 f9_0 α a b c d k1
def pa3_0:PT (List DV):=pA [pV true [dL,dL,(dI .i64),(dI .i64)]]
def Fn3_0 (v:Tf3_0)(α:Type)(k:RT α):Rows->Rows->Int->Int->Op α:=fun a b c d=>v α a b c d (fun e=>ur3_0_0 k e)
def cm3_0g:MCode:=(emb ac3)
def cm3_0:MCode:=cm3_0g
theorem gm3_0:cm3_0.Good Pg E3_0 sh3:=(emb_good ac3)
theorem em3_0:cm3_0.erase=ac3:=(emb_erase _)
theorem fm3_0g (a:Tf4_0)(b:Tf5_0)(c:Tf7_0)(d:Tf6_0)(e:Tf9_0)(g:Tf8_0)(h:Tf10_0)(i:Tf11_0)(j:Tf12_0)(l:Tf13_0)(m:Tf14_0)(α:Type)(k:RT α):Fn3_0 (f3_0g h i j l m a b d c g e) α k=pa3_0.unc fun ds=>fnM Pg (E3_0g a b c d e g h i j l m) sh3 (cm3_0g ) rs3 k ds:=by kernel_rfl
theorem fm3_0:∀ (α:Type) (k:RT α),Fn3_0 f3_0 α k=pa3_0.unc fun ds=>fnM Pg E3_0 sh3 cm3_0 rs3 k ds:=fm3_0g f4_0 f5_0 f7_0 f6_0 f9_0 f8_0 f10_0 f11_0 f12_0 f13_0 f14_0
theorem is3:FnIs Pg 3 nt3 tr3 tl3 ac3 rs3:=codeF_is Tryz.func3 (by kernel_rfl)
theorem io3_0:InstOk Pg 3 nt3 ⟨pa3_0,Fn3_0 f3_0⟩:=inst_ok eo3_0 followsTry is3 ⟨⟨sh3,cm3_0,em3_0,gm3_0,fm3_0⟩⟩
end
end Go.AM.K
