/- Printed by KGen. -/
import Derived.Test.YtamjfkiklngagaaGreatRc
import Derived.Test.YtamjfkiklngagaaGreatRp
namespace Go.AM.K
open Go.Proofs
set_option maxRecDepth 100000
set_option linter.unusedVariables false
noncomputable section
abbrev nt57:Nat:=11
def sh57:SG:=[(8,[.cpx .f64,.int .i64]),(9,[.cpx .f64,.int .i64])]
def tr57:TG:=[tT 0 [0,4,5,6],tT 1 [0,6]]
def tl57:TG:=[]
def ac57:ACode:=codeF Pg Tryz.f57 tr57 tl57
def rs57:List AResV:=resF Pg Tryz.f57
def pr57_0_0:PT (List RV):=pRs [pR true [rD (dX .f64),rD (dI .i64)],pR true [rD (dI .i64),rD (dI .i64),rD (dI .i64),rD (dI .i64),rD (dI .i64),rD (dI .i64),rD (dI .i64),rD dL,rD (dI .i64),rD (dI .i64)]]
def ur57_0_0 {β:Type}(g:List RV->β):Nat->Nat->Int->Int->Int->Int->Int->Int->Int->Int->Rows->Int->Int->β:=pr57_0_0.unc g
def E57_0g (a:Tf90_3):EnvK:=EnvK.ofIO [⟨90,nt90,[⟨pa90_3,Fn90_3 a⟩]⟩] noSeq [(90,[0])]
def E57_0:EnvK:=E57_0g f90_3
theorem eo57_0:E57_0.Ok Pg:=EnvK.ofIO_ok noSeq_ok ⟨⟨io90_3,TT⟩,TT⟩
abbrev Tf57_0:Type 1:=(α:Type)->Int->Nat->Nat->Int->Nat->Nat->Int->(Nat->Nat->Int->Int->Op α)->Op α
def f57_0g (a:Tf90_3)(α:Type)(b:Int)(c d:Nat)(e:Int)(g h:Nat)(i:Int)(k1:Nat->Nat->Int->Int->Op α):Op α:=
 a α b c d e g h i
 (fun j l m o=>k1 j l m o)
def f57_0 (α:Type)(a:Int)(b c:Nat)(d:Int)(e g:Nat)(h:Int)(k1:Nat->Nat->Int->Int->Op α):Op α:=f57_0g f90_3 α a b c d e g h k1
def pa57_0:PT (List DV):=pA [pV false [(dMr [(dI .i64),(dI .i64),(dI .i64),(dI .i64),(dI .i64),(dI .i64),(dI .i64),dL,(dI .i64),(dI .i64)] 0)],pV true [(dX .f64),(dI .i64)],pV true [(dX .f64),(dI .i64)]]
def Fn57_0 (v:Tf57_0)(α:Type)(k:RT α):Int->Int->Int->Int->Int->Int->Int->Rows->Int->Int->Nat->Nat->Int->Nat->Nat->Int->Op α:=fun a b c d e g h i j l m o p q r s=>v α a m o p q r s (fun t w z A=>ur57_0_0 k t w z A b c d e g h i j l)
def cm57_0g:MCode:=(emb ac57)
def cm57_0:MCode:=cm57_0g
theorem gm57_0:cm57_0.Good Pg E57_0 sh57:=(emb_good ac57)
theorem em57_0:cm57_0.erase=ac57:=(emb_erase _)
theorem fm57_0g (a:Tf90_3)(α:Type)(k:RT α):Fn57_0 (f57_0g a) α k=pa57_0.unc fun ds=>fnM Pg (E57_0g a) sh57 (cm57_0g ) rs57 k ds:=by kernel_rfl
theorem fm57_0:∀ (α:Type) (k:RT α),Fn57_0 f57_0 α k=pa57_0.unc fun ds=>fnM Pg E57_0 sh57 cm57_0 rs57 k ds:=fm57_0g f90_3
theorem is57:FnIs Pg 57 nt57 tr57 tl57 ac57 rs57:=codeF_is Tryz.func57 (by kernel_rfl)
theorem io57_0:InstOk Pg 57 nt57 ⟨pa57_0,Fn57_0 f57_0⟩:=inst_ok eo57_0 followsTry is57 ⟨⟨sh57,cm57_0,em57_0,gm57_0,fm57_0⟩⟩
abbrev nt60:Nat:=55
def sh60:SG:=[(19,iT),(23,iT),(29,[.cpx .f64,.int .i64]),(39,iT),(44,[.cpx .f64,.int .i64]),(52,[.cpx .f64,.int .i64]),(53,[.cpx .f64,.int .i64])]
def tr60:TG:=[tT 0 [0,1,4],tT 1 [0,4,5,6],tT 2 [0,4,6,7],tT 3 [0,4,6,7,28],tT 4 [0,4],tT 5 [0,4,7,8],tT 6 [0,4,7,8,40],tT 7 [0,4,7,8],tT 8 [0,4]]
def tl60:TG:=[]
def ac60:ACode:=codeF Pg Tryz.f60 tr60 tl60
def rs60:List AResV:=resF Pg Tryz.f60
def p60_0_0:PT St:=pSv [(0,500000000,0)] [sl 0 (aV false [(cPtr 500000000 0)]),sP 4,sP 7,sP 8] [eBox 500000000 [xI,xI,xI,xI,xI,xI,xI,(cD dL),xI,xI],eBox 4 [(cD (dX .f64)),xI],eBox 7 [(cD (dX .f64)),xI],eBox 8 [(cD (dX .f64)),xI]]
def u60_0_0 {β:Type}(g:St->β):Int->Int->Int->Int->Int->Int->Int->Rows->Int->Int->Nat->Nat->Int->Nat->Nat->Int->Nat->Nat->Int->β:=p60_0_0.unc g
def p60_0_1:PT St:=pSv [(0,500000000,0)] [sl 0 (aV false [(cPtr 500000000 0)]),sP 4,sP 7,sP 8,sY 40 dB] [eBox 500000000 [xI,xI,xI,xI,xI,xI,xI,(cD dL),xI,xI],eBox 4 [(cD (dX .f64)),xI],eBox 7 [(cD (dX .f64)),xI],eBox 8 [(cD (dX .f64)),xI]]
def u60_0_1 {β:Type}(g:St->β):Bool->Int->Int->Int->Int->Int->Int->Int->Rows->Int->Int->Nat->Nat->Int->Nat->Nat->Int->Nat->Nat->Int->β:=p60_0_1.unc g
def pr60_0_0:PT (List RV):=pRs [pR true [rD (dX .f64),rD (dI .i64)],pR true [rD (dI .i64),rD (dI .i64),rD (dI .i64),rD (dI .i64),rD (dI .i64),rD (dI .i64),rD (dI .i64),rD dL,rD (dI .i64),rD (dI .i64)]]
def ur60_0_0 {β:Type}(g:List RV->β):Nat->Nat->Int->Int->Int->Int->Int->Int->Int->Int->Rows->Int->Int->β:=pr60_0_0.unc g
def E60_0g (a:Tf62_0)(b:Tf34_0)(c:Tf35_0)(d:Tf61_0)(e:Tf96_0)(g:Tf97_0)(h:Tf63_0)(i:Tf55_0):EnvK:=EnvK.ofIO [⟨62,nt62,[⟨pa62_0,Fn62_0 a⟩]⟩,⟨34,nt34,[⟨pa34_0,Fn34_0 b⟩]⟩,⟨35,nt35,[⟨pa35_0,Fn35_0 c⟩]⟩,⟨61,nt61,[⟨pa61_0,Fn61_0 d⟩]⟩,⟨96,nt96,[⟨pa96_0,Fn96_0 e⟩]⟩,⟨97,nt97,[⟨pa97_0,Fn97_0 g⟩]⟩,⟨63,nt63,[⟨pa63_0,Fn63_0 h⟩]⟩,⟨55,nt55,[⟨pa55_0,Fn55_0 i⟩]⟩] noSeq [(55,[0]),(61,[0]),(62,[0]),(63,[0]),(96,[0])]
def E60_0:EnvK:=E60_0g f62_0 f34_0 f35_0 f61_0 f96_0 f97_0 f63_0 f55_0
theorem eo60_0:E60_0.Ok Pg:=EnvK.ofIO_ok noSeq_ok ⟨⟨io62_0,TT⟩,⟨io34_0,TT⟩,⟨io35_0,TT⟩,⟨io61_0,TT⟩,⟨io96_0,TT⟩,⟨io97_0,TT⟩,⟨io63_0,TT⟩,⟨io55_0,TT⟩,TT⟩
def c60_0_15g:MCode:=MCode.sub [1,1,1,1,1,0] (emb ac60)
def c60_0_15:MCode:=c60_0_15g
abbrev TJ60_0_0:Type 1:=(α:Type)->Int->Nat->Nat->Int->(Int->Nat->Nat->Int->Op α)->(Bool->Op α)->Op α
def J60_0_0g (b:Tf63_0)(c:Tf97_0)(α:Type)(a:Int)(d e:Nat)(g:Int)(k1:Int->Nat->Nat->Int->Op α)(k2:Bool->Op α):Op α:=
 cK (a == 0)
 (c α d e g 1
 (fun h i j l=>b α
 (k1 l h i j)))
 (k2 (a == 0))
def J60_0_0 (α:Type)(a:Int)(b c:Nat)(d:Int)(k1:Int->Nat->Nat->Int->Op α)(k2:Bool->Op α):Op α:=J60_0_0g f63_0 f97_0 α a b c d k1 k2
def F60_0_0 (v:TJ60_0_0)(α:Type)(K:KT α):Int->Int->Int->Int->Int->Int->Int->Rows->Int->Int->Nat->Nat->Int->Nat->Nat->Int->Nat->Nat->Int->Op α:=fun b c d e g h i j l m o p q r s t w z A=>v α b w z A (fun a B C D=>u60_0_0 (K .normal) a c d e g h i j l m o p q r s t B C D) (fun a=>u60_0_1 (K .normal) a b c d e g h i j l m o p q r s t w z A)
theorem m60_0_0g (c:Tf62_0)(d:Tf34_0)(e:Tf35_0)(g:Tf61_0)(h:Tf96_0)(a:Tf97_0)(b:Tf63_0)(i:Tf55_0)(α:Type)(K:KT α):F60_0_0 (J60_0_0g b a) α K=p60_0_0.unc fun σ=>runM Pg (E60_0g c d e g h a b i) sh60 (c60_0_15g ) K σ:=by kernel_rfl
theorem m60_0_0:∀ (α:Type) (K:KT α),F60_0_0 J60_0_0 α K=p60_0_0.unc fun σ=>runM Pg E60_0 sh60 c60_0_15 K σ:=m60_0_0g f62_0 f34_0 f35_0 f61_0 f96_0 f97_0 f63_0 f55_0
abbrev Tf60_0:Type 1:=(α:Type)->Int->Int->Rows->Int->Int->Int->(Nat->Nat->Int->Int->Op α)->Op α
def f60_0g (m:TJ60_0_0)(o:Tf34_0)(p:Tf35_0)(d:Tf55_0)(q:Tf61_0)(r:Tf62_0)(s:Tf96_0)(α:Type)(t w:Int)(z:Rows)(A B C:Int)(k1:Nat->Nat->Int->Int->Op α):Op α:=
 r α w z A B C
 (fun D F e=>o α (w64 (D*1048576)) 10000
 (fun G=>p α (w64 (F*1048576)) 10000
 (fun H=>q α t G H
 (fun a b c g=>cK (e == 0)
 (k1 a b c g)
 (s α g e 10000
 (fun h i j l=>m α l h i j
 (fun I J L M=>d α I a b c J L M
 (fun N O P Q=>k1 N O P Q))
 (fun W=>d α l a b c h i j
 (fun R T U V=>k1 R T U V))))))))
def f60_0 (α:Type)(a b:Int)(c:Rows)(d e g:Int)(k1:Nat->Nat->Int->Int->Op α):Op α:=f60_0g J60_0_0 f34_0 f35_0 f55_0 f61_0 f62_0 f96_0 α a b c d e g k1
def pa60_0:PT (List DV):=pA [pV false [(dMr [(dI .i64),(dI .i64),(dI .i64),(dI .i64),(dI .i64),(dI .i64),(dI .i64),dL,(dI .i64),(dI .i64)] 0)],vI]
def Fn60_0 (v:Tf60_0)(α:Type)(k:RT α):Int->Int->Int->Int->Int->Int->Int->Rows->Int->Int->Int->Op α:=fun e a g h i j l b c d m=>v α e a b c d m (fun o p q r=>ur60_0_0 k o p q r a g h i j l b c d)
def cm60_0g (a:TJ60_0_0):MCode:=(MCode.put (.m [⟨p60_0_0,F60_0_0 a⟩]) [1,1,1,1,1] (emb ac60))
def cm60_0:MCode:=cm60_0g J60_0_0
theorem gm60_0:cm60_0.Good Pg E60_0 sh60:=(put_seq (by kernel_rfl) (emb_good ac60) ⟨m60_0_0,TT⟩)
theorem em60_0:cm60_0.erase=ac60:=((put_erase _ _).trans (emb_erase _))
theorem fm60_0g (a:Tf62_0)(b:Tf34_0)(c:Tf35_0)(d:Tf61_0)(e:Tf96_0)(i:Tf97_0)(j:Tf63_0)(g:Tf55_0)(h:TJ60_0_0)(α:Type)(k:RT α):Fn60_0 (f60_0g h b c g d a e) α k=pa60_0.unc fun ds=>fnM Pg (E60_0g a b c d e i j g) sh60 (cm60_0g h) rs60 k ds:=by kernel_rfl
theorem fm60_0:∀ (α:Type) (k:RT α),Fn60_0 f60_0 α k=pa60_0.unc fun ds=>fnM Pg E60_0 sh60 cm60_0 rs60 k ds:=fm60_0g f62_0 f34_0 f35_0 f61_0 f96_0 f97_0 f63_0 f55_0 J60_0_0
theorem is60:FnIs Pg 60 nt60 tr60 tl60 ac60 rs60:=codeF_is Tryz.func60 (by kernel_rfl)
theorem io60_0:InstOk Pg 60 nt60 ⟨pa60_0,Fn60_0 f60_0⟩:=inst_ok eo60_0 followsTry is60 ⟨⟨sh60,cm60_0,em60_0,gm60_0,fm60_0⟩⟩
abbrev nt89:Nat:=55
def sh89:SG:=[(23,[.cpx .f64,.int .i64]),(25,[.cpx .f64,.int .i64]),(34,[.cpx .f64,.int .i64]),(36,[.cpx .f64,.int .i64]),(41,[.cpx .f64,.int .i64]),(42,[.cpx .f64,.int .i64]),(47,[.cpx .f64,.int .i64]),(48,[.cpx .f64,.int .i64]),(50,[.cpx .f64,.int .i64]),(51,[.cpx .f64,.int .i64]),(52,[.cpx .f64,.int .i64]),(53,[.cpx .f64,.int .i64])]
def tr89:TG:=[tT 0 [0,4,5,6],tT 1 [0,4,5,6,7],tT 2 [0,4,5,6,7,8],tT 3 [0,4,6,8,9],tT 4 [0,4,6,8,9,10],tT 5 [0,6,8,10,11],tT 6 [0,6]]
def tl89:TG:=[]
def ac89:ACode:=codeF Pg Tryz.f89 tr89 tl89
def rs89:List AResV:=resF Pg Tryz.f89
def pr89_0_0:PT (List RV):=pRs [pR true [rD (dX .f64),rD (dI .i64),rD (dX .f64),rD (dI .i64),rD (dX .f64),rD (dI .i64),rD (dX .f64),rD (dI .i64)],pR true [rD (dI .i64),rD (dI .i64),rD (dI .i64),rD (dI .i64),rD (dI .i64),rD (dI .i64),rD (dI .i64),rD dL,rD (dI .i64),rD (dI .i64)]]
def ur89_0_0 {β:Type}(g:List RV->β):Nat->Nat->Int->Nat->Nat->Int->Nat->Nat->Int->Nat->Nat->Int->Int->Int->Int->Int->Int->Int->Int->Rows->Int->Int->β:=pr89_0_0.unc g
def E89_0g (a:Tf96_0)(b:Tf85_0)(c:Tf55_0)(d:Tf56_0)(e:Tf58_0)(g:Tf57_0):EnvK:=EnvK.ofIO [⟨96,nt96,[⟨pa96_0,Fn96_0 a⟩]⟩,⟨85,nt85,[⟨pa85_0,Fn85_0 b⟩]⟩,⟨55,nt55,[⟨pa55_0,Fn55_0 c⟩]⟩,⟨56,nt56,[⟨pa56_0,Fn56_0 d⟩]⟩,⟨58,nt58,[⟨pa58_0,Fn58_0 e⟩]⟩,⟨57,nt57,[⟨pa57_0,Fn57_0 g⟩]⟩] noSeq [(55,[0]),(56,[0]),(57,[0]),(58,[0]),(96,[0])]
def E89_0:EnvK:=E89_0g f96_0 f85_0 f55_0 f56_0 f58_0 f57_0
theorem eo89_0:E89_0.Ok Pg:=EnvK.ofIO_ok noSeq_ok ⟨⟨io96_0,TT⟩,⟨io85_0,TT⟩,⟨io55_0,TT⟩,⟨io56_0,TT⟩,⟨io58_0,TT⟩,⟨io57_0,TT⟩,TT⟩
abbrev Tf89_0:Type 1:=(α:Type)->Int->Nat->Nat->Int->Nat->Nat->Int->(Nat->Nat->Int->Nat->Nat->Int->Nat->Nat->Int->Nat->Nat->Int->Int->Op α)->Op α
def f89_0g (w:Tf55_0)(a:Tf56_0)(z:Tf57_0)(A:Tf58_0)(b:Tf85_0)(B:Tf96_0)(α:Type)(C:Int)(c d:Nat)(e:Int)(g h:Nat)(i:Int)(k1:Nat->Nat->Int->Nat->Nat->Int->Nat->Nat->Int->Nat->Nat->Int->Int->Op α):Op α:=
 B α C 1 2
 (fun j l m D=>b α
 (w α D 4697254411347427328 0 0 g h i
 (fun F G H I=>a α I F G H j l m
 (fun o p q J=>b α
 (A α J 4697254411347427328 0 0 g h i
 (fun L M N O=>a α O L M N j l m
 (fun r s t P=>z α P r s t c d e
 (fun Q R T U=>a α U r s t c d e
 (fun V W X Y=>k1 o p q Q R T V W X o p q Y)))))))))
def f89_0 (α:Type)(a:Int)(b c:Nat)(d:Int)(e g:Nat)(h:Int)(k1:Nat->Nat->Int->Nat->Nat->Int->Nat->Nat->Int->Nat->Nat->Int->Int->Op α):Op α:=f89_0g f55_0 f56_0 f57_0 f58_0 f85_0 f96_0 α a b c d e g h k1
def pa89_0:PT (List DV):=pA [pV false [(dMr [(dI .i64),(dI .i64),(dI .i64),(dI .i64),(dI .i64),(dI .i64),(dI .i64),dL,(dI .i64),(dI .i64)] 0)],pV true [(dX .f64),(dI .i64)],pV true [(dX .f64),(dI .i64)]]
def Fn89_0 (v:Tf89_0)(α:Type)(k:RT α):Int->Int->Int->Int->Int->Int->Int->Rows->Int->Int->Nat->Nat->Int->Nat->Nat->Int->Op α:=fun a b c d e g h i j l m o p q r s=>v α a m o p q r s (fun t w z A B C D F G H I J L=>ur89_0_0 k t w z A B C D F G H I J L b c d e g h i j l)
def cm89_0g:MCode:=(emb ac89)
def cm89_0:MCode:=cm89_0g
theorem gm89_0:cm89_0.Good Pg E89_0 sh89:=(emb_good ac89)
theorem em89_0:cm89_0.erase=ac89:=(emb_erase _)
theorem fm89_0g (a:Tf96_0)(b:Tf85_0)(c:Tf55_0)(d:Tf56_0)(e:Tf58_0)(g:Tf57_0)(α:Type)(k:RT α):Fn89_0 (f89_0g c d g e b a) α k=pa89_0.unc fun ds=>fnM Pg (E89_0g a b c d e g) sh89 (cm89_0g ) rs89 k ds:=by kernel_rfl
theorem fm89_0:∀ (α:Type) (k:RT α),Fn89_0 f89_0 α k=pa89_0.unc fun ds=>fnM Pg E89_0 sh89 cm89_0 rs89 k ds:=fm89_0g f96_0 f85_0 f55_0 f56_0 f58_0 f57_0
theorem is89:FnIs Pg 89 nt89 tr89 tl89 ac89 rs89:=codeF_is Tryz.func89 (by kernel_rfl)
theorem io89_0:InstOk Pg 89 nt89 ⟨pa89_0,Fn89_0 f89_0⟩:=inst_ok eo89_0 followsTry is89 ⟨⟨sh89,cm89_0,em89_0,gm89_0,fm89_0⟩⟩
abbrev nt30:Nat:=111
def sh30:SG:=[(22,iT),(28,iT),(36,iT),(42,iT),(50,[.cpx .f64,.int .i64]),(51,[.cpx .f64,.int .i64]),(56,[.cpx .f64,.int .i64]),(60,[.cpx .f64,.int .i64]),(61,[.cpx .f64,.int .i64]),(76,iT),(82,[.cpx .f64,.int .i64]),(90,[.cpx .f64,.int .i64]),(97,iT),(103,iS 2),(109,iT)]
def tr30:TG:=[tT 0 [0,1,4],tT 1 [0,1,4,6],tT 2 [0,1,4,6,7],tT 3 [0,1,4,7,8],tT 4 [0,1,4,8],tT 5 [0,4,8,10],tT 6 [0,4,8,71],tT 7 [0,4,8,77],tT 8 [0,4,5],tT 9 [0,4,5],tT 10 [0,4,11],tT 11 [0,4,11,98],tT 12 [0,4,5],tT 13 [0,4,5]]
def tl30:TG:=[]
def ac30:ACode:=codeF Pg Tryz.f30 tr30 tl30
def rs30:List AResV:=resF Pg Tryz.f30
def pr30_0_0:PT (List RV):=pRs [pR true [rD (dX .f64),rD (dI .i64)],pR false [rD dB],pR true [rD (dI .i64),rD (dI .i64),rD (dI .i64),rD (dI .i64),rD (dI .i64),rD (dI .i64),rD (dI .i64),rD dL,rD (dI .i64),rD (dI .i64)]]
def ur30_0_0 {β:Type}(g:List RV->β):Nat->Nat->Int->Bool->Int->Int->Int->Int->Int->Int->Int->Rows->Int->Int->β:=pr30_0_0.unc g
def E30_0g (a:Tf60_0)(b:Tf34_0)(c:Tf35_0)(d:Tf61_0)(e:Tf56_0)(g:Tf58_0)(h:Tf62_0)(i:Tf64_0)(j:Tf63_0)(l:Tf28_0)(m:Tf65_0):EnvK:=EnvK.ofIO [⟨60,nt60,[⟨pa60_0,Fn60_0 a⟩]⟩,⟨34,nt34,[⟨pa34_0,Fn34_0 b⟩]⟩,⟨35,nt35,[⟨pa35_0,Fn35_0 c⟩]⟩,⟨61,nt61,[⟨pa61_0,Fn61_0 d⟩]⟩,⟨56,nt56,[⟨pa56_0,Fn56_0 e⟩]⟩,⟨58,nt58,[⟨pa58_0,Fn58_0 g⟩]⟩,⟨62,nt62,[⟨pa62_0,Fn62_0 h⟩]⟩,⟨64,nt64,[⟨pa64_0,Fn64_0 i⟩]⟩,⟨63,nt63,[⟨pa63_0,Fn63_0 j⟩]⟩,⟨28,nt28,[⟨pa28_0,Fn28_0 l⟩]⟩,⟨65,nt65,[⟨pa65_0,Fn65_0 m⟩]⟩] noSeq [(28,[0]),(56,[0]),(58,[0]),(60,[0]),(61,[0]),(62,[0]),(63,[0])]
def E30_0:EnvK:=E30_0g f60_0 f34_0 f35_0 f61_0 f56_0 f58_0 f62_0 f64_0 f63_0 f28_0 f65_0
theorem eo30_0:E30_0.Ok Pg:=EnvK.ofIO_ok noSeq_ok ⟨⟨io60_0,TT⟩,⟨io34_0,TT⟩,⟨io35_0,TT⟩,⟨io61_0,TT⟩,⟨io56_0,TT⟩,⟨io58_0,TT⟩,⟨io62_0,TT⟩,⟨io64_0,TT⟩,⟨io63_0,TT⟩,⟨io28_0,TT⟩,⟨io65_0,TT⟩,TT⟩
abbrev Tf30_0:Type 1:=(α:Type)->Int->Int->Int->Int->Rows->Int->Int->Int->(Nat->Nat->Int->Bool->Int->Op α)->Op α
def f30_0g (A:Tf28_0)(B:Tf34_0)(C:Tf35_0)(c:Tf56_0)(D:Tf58_0)(F:Tf60_0)(G:Tf61_0)(H:Tf62_0)(d:Tf63_0)(I:Tf64_0)(J:Tf65_0)(α:Type)(L a M N:Int)(e:Rows)(g h i:Int)(k1:Nat->Nat->Int->Bool->Int->Op α):Op α:=
 F α L a e g h i
 (fun j l m O=>B α (w64 ((w64 (a*M))*1048576)) 100000000
 (fun P=>C α (w64 ((w64 (a*N))*1048576)) 100000000
 (fun Q=>G α O P Q
 (fun o p q R=>c α R j l m j l m
 (fun T U V W=>c α W o p q o p q
 (fun X Y Z a0=>D α a0 T U V X Y Z
 (fun r s t b=>H α a e g h i
 (fun b1 b2 a1=>cK (a1 != 0)
 (cK (b != 0)
 (k1 0 0 0 false b)
 (I α r s t
 (fun a2 a3 a4 a5=>d α
 (k1 a2 a3 a4 false a5))))
 (A α b r s t
 (fun w a6 b3 b4 z=>cK (z != 0)
 (k1 0 0 0 false z)
 (J α w a6
 (fun a7 a8 a9 b0=>d α
 (k1 a7 a8 a9 (decide (w < 0)) b0)))))))))))))
def f30_0 (α:Type)(a b c d:Int)(e:Rows)(g h i:Int)(k1:Nat->Nat->Int->Bool->Int->Op α):Op α:=f30_0g f28_0 f34_0 f35_0 f56_0 f58_0 f60_0 f61_0 f62_0 f63_0 f64_0 f65_0 α a b c d e g h i k1
def pa30_0:PT (List DV):=pA [pV false [(dMr [(dI .i64),(dI .i64),(dI .i64),(dI .i64),(dI .i64),(dI .i64),(dI .i64),dL,(dI .i64),(dI .i64)] 0)],vI]
def Fn30_0 (v:Tf30_0)(α:Type)(k:RT α):Int->Int->Int->Int->Int->Int->Int->Rows->Int->Int->Int->Op α:=fun h a b c i j l d e g m=>v α h a b c d e g m (fun o p q r s=>ur30_0_0 k o p q r s a b c i j l d e g)
def cm30_0g:MCode:=(emb ac30)
def cm30_0:MCode:=cm30_0g
theorem gm30_0:cm30_0.Good Pg E30_0 sh30:=(emb_good ac30)
theorem em30_0:cm30_0.erase=ac30:=(emb_erase _)
theorem fm30_0g (a:Tf60_0)(b:Tf34_0)(c:Tf35_0)(d:Tf61_0)(e:Tf56_0)(g:Tf58_0)(h:Tf62_0)(i:Tf64_0)(j:Tf63_0)(l:Tf28_0)(m:Tf65_0)(α:Type)(k:RT α):Fn30_0 (f30_0g l b c e g a d h j i m) α k=pa30_0.unc fun ds=>fnM Pg (E30_0g a b c d e g h i j l m) sh30 (cm30_0g ) rs30 k ds:=by kernel_rfl
theorem fm30_0:∀ (α:Type) (k:RT α),Fn30_0 f30_0 α k=pa30_0.unc fun ds=>fnM Pg E30_0 sh30 cm30_0 rs30 k ds:=fm30_0g f60_0 f34_0 f35_0 f61_0 f56_0 f58_0 f62_0 f64_0 f63_0 f28_0 f65_0
theorem is30:FnIs Pg 30 nt30 tr30 tl30 ac30 rs30:=codeF_is Tryz.func30 (by kernel_rfl)
theorem io30_0:InstOk Pg 30 nt30 ⟨pa30_0,Fn30_0 f30_0⟩:=inst_ok eo30_0 followsTry is30 ⟨⟨sh30,cm30_0,em30_0,gm30_0,fm30_0⟩⟩
abbrev nt115:Nat:=81
def sh115:SG:=[(20,[.cpx .f64,.int .i64]),(26,[.sl]),(29,iS 5),(30,iS 5),(35,iT),(41,iS 4),(46,iS 2),(50,iT),(54,iT),(61,iT),(64,iT),(68,iT),(75,iT),(80,iS 4)]
def tr115:TG:=[tT 0 [0,1,4],tT 1 [0,1,4,5,6],tT 2 [0,1,4,6,7],tT 3 [0,4,6,7,8],tT 5 [0,4,6,7,8,33],tT 6 [0,4,7,8,37],tT 7 [0,4,7,8],tT 4 [0,4,7,8],tT 8 [0,4,7,8,41,42],tT 9 [0,4,7,8,41,42,43],tT 10 [0,4,7,8,9,10,41,42],tT 11 [0,4,7,8,9,10,41,42],tT 12 [0,4,7,8,41,42],tT 13 [0,4,7,8,41,42],tT 14 [0,4]]
def tl115:TG:=[tT 9 [0,4,7,8,41,42]]
def ac115:ACode:=codeF Pg Tryz.f115 tr115 tl115
def rs115:List AResV:=resF Pg Tryz.f115
def td115_23:OT:=tdC (MCode.sub [1,1,1,1,1,0,1,0] (emb ac115))
def p115_0_0:PT St:=pSv [(0,500000000,0)] [sl 0 (aV false [(cPtr 500000000 0)]),sP 4,sY 6 dB,sP 7,sP 8] [eBox 500000000 [xI,xI,xI,xI,xI,xI,xI,(cD dL),xI,xI],eBox 4 (xs 4),eBox 7 (xs 4),eBox 8 (xs 5)]
def u115_0_0 {β:Type}(g:St->β):Bool->Int->Int->Int->Int->Int->Int->Int->Rows->I15 β:=p115_0_0.unc g
def p115_0_1:PT St:=pSv [(0,500000000,0)] [sl 0 (aV false [(cPtr 500000000 0)]),sP 4,sY 6 dB,sP 7,sP 8,sY 33 dB] [eBox 500000000 [xI,xI,xI,xI,xI,xI,xI,(cD dL),xI,xI],eBox 4 (xs 4),eBox 7 (xs 4),eBox 8 (xs 5)]
def u115_0_1 {β:Type}(g:St->β):Bool->Bool->Int->Int->Int->Int->Int->Int->Int->Rows->I15 β:=p115_0_1.unc g
def p115_0_2:PT St:=pSv [(0,500000000,0)] [sl 0 (aV false [(cPtr 500000000 0)]),sP 4,sP 7,sP 8] [eBox 500000000 [xI,xI,xI,xI,xI,xI,xI,(cD dL),xI,xI],eBox 4 (xs 4),eBox 7 (xs 4),eBox 8 (xs 5)]
def u115_0_2 {β:Type}(g:St->β):Int->Int->Int->Int->Int->Int->Int->Rows->I15 β:=p115_0_2.unc g
def pr115_0_0:PT (List RV):=pRs [pR true [rD (dI .i64),rD (dI .i64),rD (dI .i64),rD (dI .i64)],pR true [rD (dI .i64),rD (dI .i64),rD (dI .i64),rD (dI .i64),rD (dI .i64),rD (dI .i64),rD (dI .i64),rD dL,rD (dI .i64),rD (dI .i64)]]
def ur115_0_0 {β:Type}(g:List RV->β):Int->Int->Int->Int->Int->Int->Int->Int->Int->Int->Int->Rows->Int->Int->β:=pr115_0_0.unc g
def E115_0g (a:Tf30_0)(b:Tf28_0)(c:Tf32_0)(d:Tf34_0)(e:Tf35_0):EnvK:=EnvK.ofIO [⟨30,nt30,[⟨pa30_0,Fn30_0 a⟩]⟩,⟨28,nt28,[⟨pa28_0,Fn28_0 b⟩]⟩,⟨32,nt32,[⟨pa32_0,Fn32_0 c⟩]⟩,⟨34,nt34,[⟨pa34_0,Fn34_0 d⟩]⟩,⟨35,nt35,[⟨pa35_0,Fn35_0 e⟩]⟩] noSeq [(28,[0]),(30,[0])]
def E115_0:EnvK:=E115_0g f30_0 f28_0 f32_0 f34_0 f35_0
theorem eo115_0:E115_0.Ok Pg:=EnvK.ofIO_ok noSeq_ok ⟨⟨io30_0,TT⟩,⟨io28_0,TT⟩,⟨io32_0,TT⟩,⟨io34_0,TT⟩,⟨io35_0,TT⟩,TT⟩
def c115_0_9g:MCode:=MCode.sub [1,1,1,1,0] (emb ac115)
def c115_0_9:MCode:=c115_0_9g
abbrev TJ115_0_0:Type 1:=(α:Type)->Bool->Int->Int->Int->Int->Int->(Bool->Op α)->(I4 (Op α))->Op α
def J115_0_0g (α:Type)(b:Bool)(c d e g a:Int)(k1:Bool->Op α)(k2:I4 (Op α)):Op α:=
 cK (a != 0)
 (k1 (a != 0))
 (cK b
 (k2 0 0 e g)
 (k2 c d 0 0))
def J115_0_0 (α:Type)(a:Bool)(b c d e g:Int)(k1:Bool->Op α)(k2:I4 (Op α)):Op α:=J115_0_0g α a b c d e g k1 k2
def F115_0_0 (v:TJ115_0_0)(α:Type)(K:KT α):Bool->Int->Int->Int->Int->Int->Int->Int->Rows->I15 (Op α):=fun c d e g h i j l m o p q r s t w z A B C D F G a=>v α c w z A B a (fun b=>u115_0_1 (K .normal) c b d e g h i j l m o p q r s t w z A B C D F G a) (fun b H I J=>u115_0_2 (K .normal) d e g h i j l m o p q r s t b H I J C D F G a)
theorem m115_0_0g (a:Tf30_0)(b:Tf28_0)(c:Tf32_0)(d:Tf34_0)(e:Tf35_0)(α:Type)(K:KT α):F115_0_0 (J115_0_0g ) α K=p115_0_0.unc fun σ=>runM Pg (E115_0g a b c d e) sh115 (c115_0_9g ) K σ:=by kernel_rfl
theorem m115_0_0:∀ (α:Type) (K:KT α),F115_0_0 J115_0_0 α K=p115_0_0.unc fun σ=>runM Pg E115_0 sh115 c115_0_9 K σ:=m115_0_0g f30_0 f28_0 f32_0 f34_0 f35_0
abbrev Tf115_0:Type 1:=(α:Type)->Int->Int->Int->Int->Int->Int->Rows->Int->Int->Int->(I5 (Op α))->Op α
def f115_0g (r:TJ115_0_0)(s:Tf28_0)(t:Tf30_0)(a:Tf32_0)(b:Tf34_0)(c:Tf35_0)(α:Type)(w z A B d e:Int)(i:Rows)(C D j:Int)(k1:I5 (Op α)):Op α:=
 t α w z A B i C D j
 (fun F G H I J=>s α J F G H
 (fun l m o p q=>rowK i (w64 (j - 1)) [.int .i64,.int .i64,.int .i64,.int .i64,.int .i64]
 (fun a7 a8 g h L=>r α I l m o p L
 (fun a9=>a α l m
 (fun M N=>b α (w64 ((w64 (4*M))*g)) e
 (fun O=>c α (w64 ((w64 (4*N))*h)) d
 (fun P=>a α o p
 (fun Q R=>b α (w64 ((w64 (4*Q))*g)) e
 (fun T=>c α (w64 ((w64 (4*R))*h)) d
 (fun U=>k1 O P T U q)))))))
 (fun V W X Y=>a α V W
 (fun Z a0=>b α (w64 ((w64 (4*Z))*g)) e
 (fun a1=>c α (w64 ((w64 (4*a0))*h)) d
 (fun a2=>a α X Y
 (fun a3 a4=>b α (w64 ((w64 (4*a3))*g)) e
 (fun a5=>c α (w64 ((w64 (4*a4))*h)) d
 (fun a6=>k1 a1 a2 a5 a6 q))))))))))
def f115_0 (α:Type)(a b c d e g:Int)(h:Rows)(i j l:Int)(k1:I5 (Op α)):Op α:=f115_0g J115_0_0 f28_0 f30_0 f32_0 f34_0 f35_0 α a b c d e g h i j l k1
def pa115_0:PT (List DV):=pA [pV false [(dMr [(dI .i64),(dI .i64),(dI .i64),(dI .i64),(dI .i64),(dI .i64),(dI .i64),dL,(dI .i64),(dI .i64)] 0)],vI]
def Fn115_0 (v:Tf115_0)(α:Type)(k:RT α):Int->Int->Int->Int->Int->Int->Int->Rows->Int->Int->Int->Op α:=fun j a b c l d e g h i m=>v α j a b c d e g h i m (fun o p q r s=>ur115_0_0 k o p q r s a b c l d e g h i)
def cm115_0g (a:TJ115_0_0):MCode:=(MCode.put (.m [⟨p115_0_0,F115_0_0 a⟩]) [1,1,1,1] (MCode.put (.u 3) [1,1,1,1,1,0,1,0] (emb ac115)))
def cm115_0:MCode:=cm115_0g J115_0_0
theorem gm115_0:cm115_0.Good Pg E115_0 sh115:=(put_seq (by kernel_rfl) (put_u (by decide) (emb_good ac115)) ⟨m115_0_0,TT⟩)
theorem em115_0:cm115_0.erase=ac115:=((put_erase _ _).trans ((put_erase _ _).trans (emb_erase _)))
theorem fm115_0g (a:Tf30_0)(b:Tf28_0)(c:Tf32_0)(d:Tf34_0)(e:Tf35_0)(g:TJ115_0_0)(α:Type)(k:RT α):Fn115_0 (f115_0g g b a c d e) α k=pa115_0.unc fun ds=>fnM Pg (E115_0g a b c d e) sh115 (cm115_0g g) rs115 k ds:=by kernel_rfl
theorem fm115_0:∀ (α:Type) (k:RT α),Fn115_0 f115_0 α k=pa115_0.unc fun ds=>fnM Pg E115_0 sh115 cm115_0 rs115 k ds:=fm115_0g f30_0 f28_0 f32_0 f34_0 f35_0 J115_0_0
theorem is115:FnIs Pg 115 nt115 tr115 tl115 ac115 rs115:=codeF_is Tryz.func115 (by kernel_rfl)
theorem io115_0:InstOk Pg 115 nt115 ⟨pa115_0,Fn115_0 f115_0⟩:=inst_ok eo115_0 followsTry is115 ⟨⟨sh115,cm115_0,em115_0,gm115_0,fm115_0⟩⟩
abbrev nt29:Nat:=35
def sh29:SG:=[(18,iT),(20,[.cpx .f64,.int .i64]),(30,[.cpx .f64,.int .i64]),(31,[.cpx .f64,.int .i64]),(33,[.cpx .f64,.int .i64])]
def tr29:TG:=[tT 0 [0,1,4],tT 1 [0,1,4,5],tT 2 [0,1,4,5,19],tT 3 [0,4],tT 4 [0,4,5,7],tT 5 [0,4]]
def tl29:TG:=[]
def ac29:ACode:=codeF Pg Tryz.f29 tr29 tl29
def rs29:List AResV:=resF Pg Tryz.f29
def pr29_0_0:PT (List RV):=pRs [pR true [rD (dX .f64),rD (dI .i64)],pR true [rD (dI .i64),rD (dI .i64),rD (dI .i64),rD (dI .i64),rD (dI .i64),rD (dI .i64),rD (dI .i64),rD dL,rD (dI .i64),rD (dI .i64)]]
def ur29_0_0 {β:Type}(g:List RV->β):Nat->Nat->Int->Int->Int->Int->Int->Int->Int->Int->Rows->Int->Int->β:=pr29_0_0.unc g
def E29_0g (a:Tf30_0)(b:Tf60_0)(c:Tf56_0)(d:Tf57_0):EnvK:=EnvK.ofIO [⟨30,nt30,[⟨pa30_0,Fn30_0 a⟩]⟩,⟨60,nt60,[⟨pa60_0,Fn60_0 b⟩]⟩,⟨56,nt56,[⟨pa56_0,Fn56_0 c⟩]⟩,⟨57,nt57,[⟨pa57_0,Fn57_0 d⟩]⟩] noSeq [(30,[0]),(56,[0]),(57,[0]),(60,[0])]
def E29_0:EnvK:=E29_0g f30_0 f60_0 f56_0 f57_0
theorem eo29_0:E29_0.Ok Pg:=EnvK.ofIO_ok noSeq_ok ⟨⟨io30_0,TT⟩,⟨io60_0,TT⟩,⟨io56_0,TT⟩,⟨io57_0,TT⟩,TT⟩
abbrev Tf29_0:Type 1:=(α:Type)->Int->Int->Int->Int->Int->Rows->Int->Int->Int->(Nat->Nat->Int->Int->Op α)->Op α
def f29_0g (p:Tf30_0)(q:Tf56_0)(r:Tf57_0)(s:Tf60_0)(α:Type)(t a w z A:Int)(b:Rows)(c d e:Int)(k1:Nat->Nat->Int->Int->Op α):Op α:=
 p α t a w z b c d e
 (fun g h i M j=>cK (A == 0)
 (k1 g h i j)
 (s α j a b c d e
 (fun l m o B=>q α B l m o l m o
 (fun C D F G=>r α G C D F g h i
 (fun H I J L=>k1 H I J L)))))
def f29_0 (α:Type)(a b c d e:Int)(g:Rows)(h i j:Int)(k1:Nat->Nat->Int->Int->Op α):Op α:=f29_0g f30_0 f56_0 f57_0 f60_0 α a b c d e g h i j k1
def pa29_0:PT (List DV):=pA [pV false [(dMr [(dI .i64),(dI .i64),(dI .i64),(dI .i64),(dI .i64),(dI .i64),(dI .i64),dL,(dI .i64),(dI .i64)] 0)],vI]
def Fn29_0 (v:Tf29_0)(α:Type)(k:RT α):Int->Int->Int->Int->Int->Int->Int->Rows->Int->Int->Int->Op α:=fun i a b c d j l e g h m=>v α i a b c d e g h m (fun o p q r=>ur29_0_0 k o p q r a b c d j l e g h)
def cm29_0g:MCode:=(emb ac29)
def cm29_0:MCode:=cm29_0g
theorem gm29_0:cm29_0.Good Pg E29_0 sh29:=(emb_good ac29)
theorem em29_0:cm29_0.erase=ac29:=(emb_erase _)
theorem fm29_0g (a:Tf30_0)(b:Tf60_0)(c:Tf56_0)(d:Tf57_0)(α:Type)(k:RT α):Fn29_0 (f29_0g a c d b) α k=pa29_0.unc fun ds=>fnM Pg (E29_0g a b c d) sh29 (cm29_0g ) rs29 k ds:=by kernel_rfl
theorem fm29_0:∀ (α:Type) (k:RT α),Fn29_0 f29_0 α k=pa29_0.unc fun ds=>fnM Pg E29_0 sh29 cm29_0 rs29 k ds:=fm29_0g f30_0 f60_0 f56_0 f57_0
theorem is29:FnIs Pg 29 nt29 tr29 tl29 ac29 rs29:=codeF_is Tryz.func29 (by kernel_rfl)
theorem io29_0:InstOk Pg 29 nt29 ⟨pa29_0,Fn29_0 f29_0⟩:=inst_ok eo29_0 followsTry is29 ⟨⟨sh29,cm29_0,em29_0,gm29_0,fm29_0⟩⟩
abbrev nt87:Nat:=95
def sh87:SG:=[(22,iT),(28,iT),(37,iT),(43,iT),(46,iT),(53,iS 2),(62,iT),(68,iS 2),(79,iT),(85,[.cpx .f64,.int .i64]),(90,iT),(92,iT)]
def tr87:TG:=[tT 0 [0,1,2,6],tT 1 [0,2,6,7],tT 2 [0,2,6,7,14],tT 3 [0,2,6,7,14,15],tT 4 [0,2,6,7,8,14],tT 5 [0,2,6,7,14],tT 6 [0,2,6,7,14],tT 7 [0,6,7,38],tT 8 [0,6],tT 9 [0,6,7,9],tT 10 [0,6,7,9,48],tT 11 [0,6,7,9],tT 12 [0,6,7,9,63],tT 13 [0,6],tT 14 [0,6,7,9,10],tT 15 [0,6,9,10],tT 16 [0,6,9,10,80],tT 17 [0,6],tT 18 [0,6]]
def tl87:TG:=[tT 3 [0,2,6,7,14]]
def ac87:ACode:=codeF Pg Tryz.f87 tr87 tl87
def rs87:List AResV:=resF Pg Tryz.f87
def td87_9:OT:=tdC (MCode.sub [1,1,0,1,0] (emb ac87))
def p87_0_0:PT St:=pSv [(0,500000000,0)] [sl 0 (aV false [(cPtr 500000000 0)]),sP 6,sP 7,sP 9] [eBox 500000000 [xI,xI,xI,xI,xI,xI,xI,(cD dL),xI,xI],eBox 6 [(cD (dX .f64)),xI],eBox 7 (xs 4),eBox 9 [(cD (dX .f64)),xI]]
def u87_0_0 {β:Type}(g:St->β):Int->Int->Int->Int->Int->Int->Int->Rows->Int->Int->Nat->Nat->Int->Int->Int->Int->Int->Nat->Nat->Int->β:=p87_0_0.unc g
def p87_0_1:PT St:=pSv [(0,500000000,0)] [sl 0 (aV false [(cPtr 500000000 0)]),sP 6,sP 7,sP 9,sY 48 dB] [eBox 500000000 [xI,xI,xI,xI,xI,xI,xI,(cD dL),xI,xI],eBox 6 [(cD (dX .f64)),xI],eBox 7 (xs 4),eBox 9 [(cD (dX .f64)),xI]]
def u87_0_1 {β:Type}(g:St->β):Bool->Int->Int->Int->Int->Int->Int->Int->Rows->Int->Int->Nat->Nat->Int->Int->Int->Int->Int->Nat->Nat->Int->β:=p87_0_1.unc g
def pr87_0_0:PT (List RV):=pRs [pR true [rD (dX .f64),rD (dI .i64)],pR true [rD (dI .i64),rD (dI .i64),rD (dI .i64),rD (dI .i64),rD (dI .i64),rD (dI .i64),rD (dI .i64),rD dL,rD (dI .i64),rD (dI .i64)]]
def ur87_0_0 {β:Type}(g:List RV->β):Nat->Nat->Int->Int->Int->Int->Int->Int->Int->Int->Rows->Int->Int->β:=pr87_0_0.unc g
def E87_0g (a:Tf115_0)(b:Tf116_0)(c:Tf63_0)(d:Tf117_0)(e:Tf61_0)(g:Tf56_0):EnvK:=EnvK.ofIO [⟨115,nt115,[⟨pa115_0,Fn115_0 a⟩]⟩,⟨116,nt116,[⟨pa116_0,Fn116_0 b⟩]⟩,⟨63,nt63,[⟨pa63_0,Fn63_0 c⟩]⟩,⟨117,nt117,[⟨pa117_0,Fn117_0 d⟩]⟩,⟨61,nt61,[⟨pa61_0,Fn61_0 e⟩]⟩,⟨56,nt56,[⟨pa56_0,Fn56_0 g⟩]⟩] noSeq [(56,[0]),(61,[0]),(63,[0]),(115,[0])]
def E87_0:EnvK:=E87_0g f115_0 f116_0 f63_0 f117_0 f61_0 f56_0
theorem eo87_0:E87_0.Ok Pg:=EnvK.ofIO_ok noSeq_ok ⟨⟨io115_0,TT⟩,⟨io116_0,TT⟩,⟨io63_0,TT⟩,⟨io117_0,TT⟩,⟨io61_0,TT⟩,⟨io56_0,TT⟩,TT⟩
def c87_0_28g:MCode:=MCode.sub [1,1,1,1,1,0] (emb ac87)
def c87_0_28:MCode:=c87_0_28g
abbrev TJ87_0_0:Type 1:=(α:Type)->Int->Int->(Int->Nat->Nat->Int->Op α)->(Bool->Op α)->Op α
def J87_0_0g (c:Tf116_0)(d:Tf63_0)(α:Type)(a b:Int)(k1:Int->Nat->Nat->Int->Op α)(k2:Bool->Op α):Op α:=
 cK (decide ((w64 (b - a)) < 1048576))
 (c α a b
 (fun e g h i=>d α
 (k1 i e g h)))
 (k2 (decide ((w64 (b - a)) < 1048576)))
def J87_0_0 (α:Type)(a b:Int)(k1:Int->Nat->Nat->Int->Op α)(k2:Bool->Op α):Op α:=J87_0_0g f116_0 f63_0 α a b k1 k2
def F87_0_0 (v:TJ87_0_0)(α:Type)(K:KT α):Int->Int->Int->Int->Int->Int->Int->Rows->Int->Int->Nat->Nat->Int->Int->Int->Int->Int->Nat->Nat->Int->Op α:=fun w d e g h i j l m o p q r a b s t z A B=>v α a b (fun c C D F=>u87_0_0 (K .normal) c d e g h i j l m o p q r a b s t C D F) (fun c=>u87_0_1 (K .normal) c w d e g h i j l m o p q r a b s t z A B)
theorem m87_0_0g (c:Tf115_0)(a:Tf116_0)(b:Tf63_0)(d:Tf117_0)(e:Tf61_0)(g:Tf56_0)(α:Type)(K:KT α):F87_0_0 (J87_0_0g a b) α K=p87_0_0.unc fun σ=>runM Pg (E87_0g c a b d e g) sh87 (c87_0_28g ) K σ:=by kernel_rfl
theorem m87_0_0:∀ (α:Type) (K:KT α),F87_0_0 J87_0_0 α K=p87_0_0.unc fun σ=>runM Pg E87_0 sh87 c87_0_28 K σ:=m87_0_0g f115_0 f116_0 f63_0 f117_0 f61_0 f56_0
abbrev Tf87_0:Type 1:=(α:Type)->Int->Int->Int->Int->Int->Int->Rows->Int->Int->Int->Int->(Nat->Nat->Int->Int->Op α)->Op α
def f87_0g (m:TJ87_0_0)(o:Tf115_0)(e:Tf117_0)(g:Tf56_0)(h:Tf61_0)(α:Type)(p q r s t w:Int)(z:Rows)(A B C a:Int)(k1:Nat->Nat->Int->Int->Op α):Op α:=
 o α p q r s t w z A B C
 (fun D F i j b=>cK (b != 0)
 (k1 0 0 0 b)
 (m α (w64 (a*D)) (w64 (a*F))
 (fun l G H I=>cK (l != 0)
 (k1 0 0 0 l)
 (e α (w64 (a*i)) (w64 (a*j))
 (fun J L c=>cK (c != 0)
 (k1 0 0 0 c)
 (h α c J L
 (fun M N O P=>g α P G H I M N O
 (fun Q R T U=>k1 Q R T U))))))
 (fun a5=>cK (b != 0)
 (k1 0 0 0 b)
 (e α (w64 (a*i)) (w64 (a*j))
 (fun V W d=>cK (d != 0)
 (k1 0 0 0 d)
 (h α d V W
 (fun X Y Z a0=>g α a0 0 0 1048576 X Y Z
 (fun a1 a2 a3 a4=>k1 a1 a2 a3 a4))))))))
def f87_0 (α:Type)(a b c d e g:Int)(h:Rows)(i j l m:Int)(k1:Nat->Nat->Int->Int->Op α):Op α:=f87_0g J87_0_0 f115_0 f117_0 f56_0 f61_0 α a b c d e g h i j l m k1
def pa87_0:PT (List DV):=pA [pV false [(dMr [(dI .i64),(dI .i64),(dI .i64),(dI .i64),(dI .i64),(dI .i64),(dI .i64),dL,(dI .i64),(dI .i64)] 0)],vI,vI]
def Fn87_0 (v:Tf87_0)(α:Type)(k:RT α):Int->Int->Int->Int->Int->Int->Int->Rows->I4 (Op α):=fun j a b c l d e g h i m o=>v α j a b c d e g h i m o (fun p q r s=>ur87_0_0 k p q r s a b c l d e g h i)
def cm87_0g (a:TJ87_0_0):MCode:=(MCode.put (.u 3) [1,1,0,1,0] (MCode.put (.m [⟨p87_0_0,F87_0_0 a⟩]) [1,1,1,1,1] (emb ac87)))
def cm87_0:MCode:=cm87_0g J87_0_0
theorem gm87_0:cm87_0.Good Pg E87_0 sh87:=(put_u (by decide) (put_seq (by kernel_rfl) (emb_good ac87) ⟨m87_0_0,TT⟩))
theorem em87_0:cm87_0.erase=ac87:=((put_erase _ _).trans ((put_erase _ _).trans (emb_erase _)))
theorem fm87_0g (a:Tf115_0)(g:Tf116_0)(h:Tf63_0)(b:Tf117_0)(c:Tf61_0)(d:Tf56_0)(e:TJ87_0_0)(α:Type)(k:RT α):Fn87_0 (f87_0g e a b d c) α k=pa87_0.unc fun ds=>fnM Pg (E87_0g a g h b c d) sh87 (cm87_0g e) rs87 k ds:=by kernel_rfl
theorem fm87_0:∀ (α:Type) (k:RT α),Fn87_0 f87_0 α k=pa87_0.unc fun ds=>fnM Pg E87_0 sh87 cm87_0 rs87 k ds:=fm87_0g f115_0 f116_0 f63_0 f117_0 f61_0 f56_0 J87_0_0
theorem is87:FnIs Pg 87 nt87 tr87 tl87 ac87 rs87:=codeF_is Tryz.func87 (by kernel_rfl)
theorem io87_0:InstOk Pg 87 nt87 ⟨pa87_0,Fn87_0 f87_0⟩:=inst_ok eo87_0 followsTry is87 ⟨⟨sh87,cm87_0,em87_0,gm87_0,fm87_0⟩⟩
abbrev nt54:Nat:=59
def sh54:SG:=[(22,[.sl]),(30,iT),(45,[.cpx .f64,.int .i64]),(51,[.cpx .f64,.int .i64,.cpx .f64,.int .i64,.cpx .f64,.int .i64,.cpx .f64,.int .i64]),(53,[.cpx .f64,.int .i64]),(54,[.cpx .f64,.int .i64]),(57,[.cpx .f64,.int .i64,.cpx .f64,.int .i64,.cpx .f64,.int .i64,.cpx .f64,.int .i64]),(58,[.cpx .f64,.int .i64])]
def tr54:TG:=[tT 0 [0,1,4,5],tT 1 [0,1,4,5,6,7],tT 2 [0,1,4,5,6,7,8],tT 3 [0,1,4,5,6,7,8,32],tT 5 [0,1,4,5,6,7,8,9],tT 6 [0,1,4,5,6,7,8,9,10],tT 7 [0,1,4,5,6,7,8,9,10,41],tT 8 [0,1,4,5,6,7,8,9,10],tT 9 [0,1,4,5,6,7,8],tT 4 [0,1,4,5,6,7,8],tT 10 [0,4,5]]
def tl54:TG:=[tT 3 [0,1,4,5,6,7,8]]
def ac54:ACode:=codeF Pg Tryz.f54 tr54 tl54
def rs54:List AResV:=resF Pg Tryz.f54
def td54_9:OT:=tdC (MCode.sub [1,1,0,1,0] (emb ac54))
def p54_0_0:PT St:=pSv [(0,500000000,0)] [sl 0 (aV false [(cPtr 500000000 0)]),sY 1 dB,sP 4,sP 5,sP 6,sP 7,sI 8,sP 9,sP 10] [eBox 500000000 [xI,xI,xI,xI,xI,xI,xI,(cD dL),xI,xI],eBox 4 [(cD (dX .f64)),xI,(cD (dX .f64)),xI,(cD (dX .f64)),xI,(cD (dX .f64)),xI],eBox 5 [(cD (dX .f64)),xI],eBox 6 [(cD (dX .f64)),xI,(cD (dX .f64)),xI,(cD (dX .f64)),xI,(cD (dX .f64)),xI],eBox 7 [(cD (dX .f64)),xI],eBox 9 [(cD (dX .f64)),xI],eBox 10 [(cD (dX .f64)),xI]]
def u54_0_0 {β:Type}(g:St->β):Bool->Int->Int->Int->Int->Int->Int->Int->Int->Rows->Int->Int->Nat->Nat->Int->Nat->Nat->Int->Nat->Nat->Int->Nat->Nat->Int->Nat->Nat->Int->Nat->Nat->Int->Nat->Nat->Int->Nat->Nat->Int->Nat->Nat->Int->Nat->Nat->Int->Nat->Nat->Int->Nat->Nat->Int->β:=p54_0_0.unc g
def p54_0_1:PT St:=pSv [(0,500000000,0)] [sl 0 (aV false [(cPtr 500000000 0)]),sY 1 dB,sP 4,sP 5,sP 6,sP 7,sI 8,sP 9,sP 10,sY 41 dB] [eBox 500000000 [xI,xI,xI,xI,xI,xI,xI,(cD dL),xI,xI],eBox 4 [(cD (dX .f64)),xI,(cD (dX .f64)),xI,(cD (dX .f64)),xI,(cD (dX .f64)),xI],eBox 5 [(cD (dX .f64)),xI],eBox 6 [(cD (dX .f64)),xI,(cD (dX .f64)),xI,(cD (dX .f64)),xI,(cD (dX .f64)),xI],eBox 7 [(cD (dX .f64)),xI],eBox 9 [(cD (dX .f64)),xI],eBox 10 [(cD (dX .f64)),xI]]
def u54_0_1 {β:Type}(g:St->β):Bool->Int->Bool->Int->Int->Int->Int->Int->Int->Int->Rows->Int->Int->Nat->Nat->Int->Nat->Nat->Int->Nat->Nat->Int->Nat->Nat->Int->Nat->Nat->Int->Nat->Nat->Int->Nat->Nat->Int->Nat->Nat->Int->Nat->Nat->Int->Nat->Nat->Int->Nat->Nat->Int->Nat->Nat->Int->β:=p54_0_1.unc g
def p54_0_2:PT St:=pSv [(0,500000000,0)] [sl 0 (aV false [(cPtr 500000000 0)]),sY 1 dB,sP 4,sP 5,sP 6,sP 7,sI 8] [eBox 500000000 [xI,xI,xI,xI,xI,xI,xI,(cD dL),xI,xI],eBox 4 [(cD (dX .f64)),xI,(cD (dX .f64)),xI,(cD (dX .f64)),xI,(cD (dX .f64)),xI],eBox 5 [(cD (dX .f64)),xI],eBox 6 [(cD (dX .f64)),xI,(cD (dX .f64)),xI,(cD (dX .f64)),xI,(cD (dX .f64)),xI],eBox 7 [(cD (dX .f64)),xI]]
def u54_0_2 {β:Type}(g:St->β):Bool->Int->Int->Int->Int->Int->Int->Int->Int->Rows->Int->Int->Nat->Nat->Int->Nat->Nat->Int->Nat->Nat->Int->Nat->Nat->Int->Nat->Nat->Int->Nat->Nat->Int->Nat->Nat->Int->Nat->Nat->Int->Nat->Nat->Int->Nat->Nat->Int->β:=p54_0_2.unc g
def p54_0_3:PT St:=pSv [(0,500000000,0)] [sl 0 (aV false [(cPtr 500000000 0)]),sY 1 dB,sP 4,sP 5,sP 6,sP 7,sI 8,sY 32 dB] [eBox 500000000 [xI,xI,xI,xI,xI,xI,xI,(cD dL),xI,xI],eBox 4 [(cD (dX .f64)),xI,(cD (dX .f64)),xI,(cD (dX .f64)),xI,(cD (dX .f64)),xI],eBox 5 [(cD (dX .f64)),xI],eBox 6 [(cD (dX .f64)),xI,(cD (dX .f64)),xI,(cD (dX .f64)),xI,(cD (dX .f64)),xI],eBox 7 [(cD (dX .f64)),xI]]
def u54_0_3 {β:Type}(g:St->β):Bool->Int->Bool->Int->Int->Int->Int->Int->Int->Int->Rows->Int->Int->Nat->Nat->Int->Nat->Nat->Int->Nat->Nat->Int->Nat->Nat->Int->Nat->Nat->Int->Nat->Nat->Int->Nat->Nat->Int->Nat->Nat->Int->Nat->Nat->Int->Nat->Nat->Int->β:=p54_0_3.unc g
def pr54_0_0:PT (List RV):=pRs [pR true [rD (dX .f64),rD (dI .i64),rD (dX .f64),rD (dI .i64),rD (dX .f64),rD (dI .i64),rD (dX .f64),rD (dI .i64)],pR true [rD (dX .f64),rD (dI .i64)],pR true [rD (dI .i64),rD (dI .i64),rD (dI .i64),rD (dI .i64),rD (dI .i64),rD (dI .i64),rD (dI .i64),rD dL,rD (dI .i64),rD (dI .i64)]]
def ur54_0_0 {β:Type}(g:List RV->β):Nat->Nat->Int->Nat->Nat->Int->Nat->Nat->Int->Nat->Nat->Int->Nat->Nat->Int->Int->Int->Int->Int->Int->Int->Int->Rows->Int->Int->β:=pr54_0_0.unc g
def E54_0g (a:Tf85_0)(b:Tf86_0)(c:Tf29_0)(d:Tf87_0)(e:Tf56_0)(g:Tf89_0)(h:Tf88_0):EnvK:=EnvK.ofIO [⟨85,nt85,[⟨pa85_0,Fn85_0 a⟩]⟩,⟨86,nt86,[⟨pa86_0,Fn86_0 b⟩]⟩,⟨29,nt29,[⟨pa29_0,Fn29_0 c⟩]⟩,⟨87,nt87,[⟨pa87_0,Fn87_0 d⟩]⟩,⟨56,nt56,[⟨pa56_0,Fn56_0 e⟩]⟩,⟨89,nt89,[⟨pa89_0,Fn89_0 g⟩]⟩,⟨88,nt88,[⟨pa88_0,Fn88_0 h⟩]⟩] noSeq [(29,[0]),(56,[0]),(87,[0]),(88,[0]),(89,[0])]
def E54_0:EnvK:=E54_0g f85_0 f86_0 f29_0 f87_0 f56_0 f89_0 f88_0
theorem eo54_0:E54_0.Ok Pg:=EnvK.ofIO_ok noSeq_ok ⟨⟨io85_0,TT⟩,⟨io86_0,TT⟩,⟨io29_0,TT⟩,⟨io87_0,TT⟩,⟨io56_0,TT⟩,⟨io89_0,TT⟩,⟨io88_0,TT⟩,TT⟩
def c54_0_20g:MCode:=MCode.sub [1,1,0,1,0,0,1,0,0,1,1,0] (emb ac54)
def c54_0_20:MCode:=c54_0_20g
abbrev TJ54_0_0:Type 1:=(α:Type)->Bool->Int->Int->Int->Int->Int->Int->Int->Rows->Int->Int->Nat->Nat->Int->(Int->Nat->Nat->Int->Op α)->(Op α)->Op α
def J54_0_0g (a:Tf56_0)(b:Tf87_0)(α:Type)(c:Bool)(d e g h i j l:Int)(m:Rows)(o p:Int)(q r:Nat)(s:Int)(k1:Int->Nat->Nat->Int->Op α)(k2:Op α):Op α:=
 cK c
 (b α e g h i j l m o p d 1
 (fun t w z A=>a α A q r s t w z
 (fun B C D F=>k1 F B C D)))
 (k2)
def J54_0_0 (α:Type)(a:Bool)(b c d e g h i:Int)(j:Rows)(l m:Int)(o p:Nat)(q:Int)(k1:Int->Nat->Nat->Int->Op α)(k2:Op α):Op α:=J54_0_0g f56_0 f87_0 α a b c d e g h i j l m o p q k1 k2
def F54_0_0 (v:TJ54_0_0)(α:Type)(K:KT α):Bool->Int->Int->Int->Int->Int->Int->Int->Int->Rows->Int->Int->Nat->Nat->Int->Nat->Nat->Int->Nat->Nat->Int->Nat->Nat->Int->Nat->Nat->Int->Nat->Nat->Int->Nat->Nat->Int->Nat->Nat->Int->Nat->Nat->Int->Nat->Nat->Int->Nat->Nat->Int->Nat->Nat->Int->Op α:=fun a b m c d e o g h i j l p q r s t w z A B C D F G H I J L M N O P Q R T U V W X Y Z a0 a1 a2 a3 a4 a5=>v α a b m c d e g h i j l X Y Z (fun a6 a7 a8 a9=>u54_0_0 (K .normal) a b a6 c d e o g h i j l p q r s t w z A B C D F G H I J L M N O P Q R T U V W a7 a8 a9 a0 a1 a2 a3 a4 a5) (u54_0_1 (K .normal) a b a m c d e o g h i j l p q r s t w z A B C D F G H I J L M N O P Q R T U V W X Y Z a0 a1 a2 a3 a4 a5)
theorem m54_0_0g (c:Tf85_0)(d:Tf86_0)(e:Tf29_0)(a:Tf87_0)(b:Tf56_0)(g:Tf89_0)(h:Tf88_0)(α:Type)(K:KT α):F54_0_0 (J54_0_0g b a) α K=p54_0_0.unc fun σ=>runM Pg (E54_0g c d e a b g h) sh54 (c54_0_20g ) K σ:=by kernel_rfl
theorem m54_0_0:∀ (α:Type) (K:KT α),F54_0_0 J54_0_0 α K=p54_0_0.unc fun σ=>runM Pg E54_0 sh54 c54_0_20 K σ:=m54_0_0g f85_0 f86_0 f29_0 f87_0 f56_0 f89_0 f88_0
def c54_0_9g (a:TJ54_0_0):MCode:=MCode.sub [1,1,0,1,0,0] (MCode.put (.m [⟨p54_0_0,F54_0_0 a⟩]) [1,1,0,1,0,0,1,0,0,1,1] (emb ac54))
def c54_0_9:MCode:=c54_0_9g J54_0_0
def S54_0_1g (R:TJ54_0_0)(T:Tf29_0)(U:Tf87_0)(F:Tf88_0)(G:Tf89_0)(α:Type)(V:Bool)(z A B W H I:Int)(c:Rows)(C D a b:Int)(d e:Nat)(g:Int)(h i:Nat)(j:Int)(l m:Nat)(o:Int)(p q:Nat)(r:Int)(s t:Nat)(w:Int)(kn:Int->Int->Nat->Nat->Int->Nat->Nat->Int->Nat->Nat->Int->Nat->Nat->Int->Nat->Nat->Int->Op α)(k1:Int->Bool->Int->Nat->Nat->Int->Nat->Nat->Int->Nat->Nat->Int->Nat->Nat->Int->Nat->Nat->Int->Op α):Op α:=
 cK (decide (a<=((List.length c:Nat):Int)))
 (cK (b == 0)
 (T α b z A B W c C D a
 (fun J L M X=>U α X z A B H I c C D a 2
 (fun N O P Q=>R α V a Q z A B H I c C D s t w
 (fun Y Z a0 a1=>G α Y J L M N O P
 (fun a2 a3 a4 a5 a6 a7 a8 a9 b0 b1 b2 b3 b4=>F α b4 d e g h i j l m o p q r a2 a3 a4 a5 a6 a7 a8 a9 b0 b1 b2 b3
 (fun b5 b6 b7 b8 b9 c0 c1 c2 c3 c4 c5 c6 c7=>kn (w64 (a+1)) c7 b5 b6 b7 b8 b9 c0 c1 c2 c3 c4 c5 c6 Z a0 a1)))
 (G α Q J L M N O P
 (fun c8 c9 d0 d1 d2 d3 d4 d5 d6 d7 d8 d9 e0=>F α e0 d e g h i j l m o p q r c8 c9 d0 d1 d2 d3 d4 d5 d6 d7 d8 d9
 (fun e1 e2 e3 e4 e5 e6 e7 e8 e9 g0 g1 g2 g3=>kn (w64 (a+1)) g3 e1 e2 e3 e4 e5 e6 e7 e8 e9 g0 g1 g2 s t w))))))
 (k1 a (b == 0) b d e g h i j l m o p q r s t w))
 (k1 a false b d e g h i j l m o p q r s t w)
def S54_0_1 (α:Type)(a:Bool)(b c d e g h:Int)(i:Rows)(j l m o:Int)(p q:Nat)(r:Int)(s t:Nat)(w:Int)(z A:Nat)(B:Int)(C D:Nat)(F:Int)(G H:Nat)(I:Int)(kn:Int->Int->Nat->Nat->Int->Nat->Nat->Int->Nat->Nat->Int->Nat->Nat->Int->Nat->Nat->Int->Op α)(k1:Int->Bool->Int->Nat->Nat->Int->Nat->Nat->Int->Nat->Nat->Int->Nat->Nat->Int->Nat->Nat->Int->Op α):Op α:=S54_0_1g J54_0_0 f29_0 f87_0 f88_0 f89_0 α a b c d e g h i j l m o p q r s t w z A B C D F G H I kn k1
def R54_0_1 (α:Type)(a:Bool)(b c d e g h:Int)(i:Rows)(j l:Int)(k1:Int->Bool->Int->Nat->Nat->Int->Nat->Nat->Int->Nat->Nat->Int->Nat->Nat->Int->Nat->Nat->Int->Op α):Nat->Int->Int->Nat->Nat->Int->Nat->Nat->Int->Nat->Nat->Int->Nat->Nat->Int->Nat->Nat->Int->Op α
 | 0=>fun _ _ _ _ _ _ _ _ _ _ _ _ _ _ _ _ _=>none
 | n+1=>fun m o p q r s t w z A B C D F G H I=>S54_0_1 α a b c d e g h i j l m o p q r s t w z A B C D F G H I (R54_0_1 α a b c d e g h i j l k1 n) k1
def L54_0_1 (α:Type)(a:Bool)(b c d e g h:Int)(i:Rows)(j l:Int)(k1:Int->Bool->Int->Nat->Nat->Int->Nat->Nat->Int->Nat->Nat->Int->Nat->Nat->Int->Nat->Nat->Int->Op α)(m o:Int)(p q:Nat)(r:Int)(s t:Nat)(w:Int)(z A:Nat)(B:Int)(C D:Nat)(F:Int)(G H:Nat)(I:Int):Op α:=R54_0_1 α a b c d e g h i j l k1 fuel m o p q r s t w z A B C D F G H I
abbrev TL54_0_1:Type 1:=(α:Type)->Bool->Int->Int->Int->Int->Int->Int->Rows->Int->Int->(Int->Bool->Int->Nat->Nat->Int->Nat->Nat->Int->Nat->Nat->Int->Nat->Nat->Int->Nat->Nat->Int->Op α)->Int->Int->Nat->Nat->Int->Nat->Nat->Int->Nat->Nat->Int->Nat->Nat->Int->Nat->Nat->Int->Op α
def F54_0_1 (v:TL54_0_1)(α:Type)(K:KT α):Bool->Int->Int->Int->Int->Int->Int->Int->Int->Rows->Int->Int->Nat->Nat->Int->Nat->Nat->Int->Nat->Nat->Int->Nat->Nat->Int->Nat->Nat->Int->Nat->Nat->Int->Nat->Nat->Int->Nat->Nat->Int->Nat->Nat->Int->Nat->Nat->Int->Op α:=fun a m o b c d e g h i j l p q r s t w z A B C D F G H I J L M N O P Q R T U V W X Y Z=>v α a b c d e g h i j l (fun a0 a1 a2 a3 a4 a5 a6 a7 a8 a9 b0 b1 b2 b3 b4 b5 b6 b7=>u54_0_3 (K (.exit 0)) a a0 a1 a2 b c d e g h i j l p q r s t w z A B C D F G H I a3 a4 a5 a6 a7 a8 a9 b0 b1 b2 b3 b4 b5 b6 b7) m o J L M N O P Q R T U V W X Y Z
theorem r54_0_1g (a5:Tf85_0)(a6:Tf86_0)(a0:Tf29_0)(a1:Tf87_0)(a7:Tf56_0)(a2:Tf89_0)(a3:Tf88_0)(a4:TJ54_0_0)(α:Type)(K:KT α)(Kn:SK α)(a:Bool)(b c d e g h i j:Int)(l:Rows)(m o:Int)(J L:Nat)(M:Int)(N O:Nat)(P:Int)(Q R:Nat)(T:Int)(U V:Nat)(W:Int)(X Y:Nat)(Z:Int)(p q:Nat)(r:Int)(s t:Nat)(w:Int)(z A:Nat)(B:Int)(C D:Nat)(F:Int)(G H:Nat)(I:Int):u54_0_2 (fun σ=>runM Pg (E54_0g a5 a6 a0 a1 a7 a2 a3) sh54 (c54_0_9g a4) (thenK (fun σ=>tidyK td54_9 σ Kn) K) σ) a b c d e g h i j l m o J L M N O P Q R T U V W X Y Z p q r s t w z A B C D F G H I=S54_0_1g a4 a0 a1 a3 a2 α a d e g h i j l m o b c p q r s t w z A B C D F G H I (fun b c p q r s t w z A B C D F G H I=>u54_0_2 Kn a b c d e g h i j l m o J L M N O P Q R T U V W X Y Z p q r s t w z A B C D F G H I) (fun a8 a9 b0 b1 b2 b3 b4 b5 b6 b7 b8 b9 c0 c1 c2 c3 c4 c5=>u54_0_3 (K (.exit 0)) a a8 a9 b0 d e g h i j l m o J L M N O P Q R T U V W X Y Z b1 b2 b3 b4 b5 b6 b7 b8 b9 c0 c1 c2 c3 c4 c5):=by kernel_rfl
theorem r54_0_1 (α:Type)(K:KT α)(Kn:SK α)(a:Bool)(b c d e g h i j:Int)(l:Rows)(m o:Int)(J L:Nat)(M:Int)(N O:Nat)(P:Int)(Q R:Nat)(T:Int)(U V:Nat)(W:Int)(X Y:Nat)(Z:Int)(p q:Nat)(r:Int)(s t:Nat)(w:Int)(z A:Nat)(B:Int)(C D:Nat)(F:Int)(G H:Nat)(I:Int):u54_0_2 (fun σ=>runM Pg E54_0 sh54 c54_0_9 (thenK (fun σ=>tidyK td54_9 σ Kn) K) σ) a b c d e g h i j l m o J L M N O P Q R T U V W X Y Z p q r s t w z A B C D F G H I=S54_0_1 α a d e g h i j l m o b c p q r s t w z A B C D F G H I (fun b c p q r s t w z A B C D F G H I=>u54_0_2 Kn a b c d e g h i j l m o J L M N O P Q R T U V W X Y Z p q r s t w z A B C D F G H I) (fun a0 a1 a2 a3 a4 a5 a6 a7 a8 a9 b0 b1 b2 b3 b4 b5 b6 b7=>u54_0_3 (K (.exit 0)) a a0 a1 a2 d e g h i j l m o J L M N O P Q R T U V W X Y Z a3 a4 a5 a6 a7 a8 a9 b0 b1 b2 b3 b4 b5 b6 b7):=r54_0_1g f85_0 f86_0 f29_0 f87_0 f56_0 f89_0 f88_0 J54_0_0 α K Kn a b c d e g h i j l m o J L M N O P Q R T U V W X Y Z p q r s t w z A B C D F G H I
theorem t54_0_1 (α:Type)(K:KT α):∀ (n:Nat) (a:Bool) (m o b c d e g h:Int) (i:Rows) (j l:Int) (J L:Nat) (M:Int) (N O:Nat) (P:Int) (Q R:Nat) (T:Int) (U V:Nat) (W:Int) (X Y:Nat) (Z:Int) (p q:Nat) (r:Int) (s t:Nat) (w:Int) (z A:Nat) (B:Int) (C D:Nat) (F:Int) (G H:Nat) (I:Int),R54_0_1 α a b c d e g h i j l (fun a0 a1 a2 a3 a4 a5 a6 a7 a8 a9 b0 b1 b2 b3 b4 b5 b6 b7=>u54_0_3 (K (.exit 0)) a a0 a1 a2 b c d e g h i j l J L M N O P Q R T U V W X Y Z a3 a4 a5 a6 a7 a8 a9 b0 b1 b2 b3 b4 b5 b6 b7) n m o p q r s t w z A B C D F G H I=u54_0_2 (loopT (runM Pg E54_0 sh54 c54_0_9) td54_9 K n) a m o b c d e g h i j l J L M N O P Q R T U V W X Y Z p q r s t w z A B C D F G H I:=by
 intro n
 induction n with
 | zero=>intros;rfl
 | succ n ih=>intro a m o b c d e g h i j l J L M N O P Q R T U V W X Y Z p q r s t w z A B C D F G H I;exact (congrArg (fun kn=>S54_0_1 α a b c d e g h i j l m o p q r s t w z A B C D F G H I kn (fun a0 a1 a2 a3 a4 a5 a6 a7 a8 a9 b0 b1 b2 b3 b4 b5 b6 b7=>u54_0_3 (K (.exit 0)) a a0 a1 a2 b c d e g h i j l J L M N O P Q R T U V W X Y Z a3 a4 a5 a6 a7 a8 a9 b0 b1 b2 b3 b4 b5 b6 b7)) (funext fun m=>funext fun o=>funext fun p=>funext fun q=>funext fun r=>funext fun s=>funext fun t=>funext fun w=>funext fun z=>funext fun A=>funext fun B=>funext fun C=>funext fun D=>funext fun F=>funext fun G=>funext fun H=>funext fun I=>ih a m o b c d e g h i j l J L M N O P Q R T U V W X Y Z p q r s t w z A B C D F G H I)).trans (r54_0_1 α K (loopT (runM Pg E54_0 sh54 c54_0_9) td54_9 K n) a m o b c d e g h i j l J L M N O P Q R T U V W X Y Z p q r s t w z A B C D F G H I).symm
theorem m54_0_1:∀ (α:Type) (K:KT α),F54_0_1 L54_0_1 α K=p54_0_2.unc fun σ=>loopT (runM Pg E54_0 sh54 c54_0_9) td54_9 K fuel σ:=fun α K=>by funext a b c d e g h i j l m o p q r s t w z A B C D F G H I J L M N O P Q R T U V W X Y Z;exact t54_0_1 α K fuel a b c d e g h i j l m o p q r s t w z A B C D F G H I J L M N O P Q R T U V W X Y Z
abbrev Tf54_0:Type 1:=(α:Type)->Int->Int->Int->Int->Int->Int->Int->Rows->Int->Int->Bool->(Nat->Nat->Int->Nat->Nat->Int->Nat->Nat->Int->Nat->Nat->Int->Nat->Nat->Int->Int->Op α)->Op α
def f54_0g (c:TL54_0_1)(a:Tf85_0)(b:Tf86_0)(α:Type)(d e g h i j l:Int)(m:Rows)(o p:Int)(q:Bool)(k1:Nat->Nat->Int->Nat->Nat->Int->Nat->Nat->Int->Nat->Nat->Int->Nat->Nat->Int->Int->Op α):Op α:=
 a α
 (b α
 (b α
 (a α
 (a α
 (c α q e g h i j l m o p
 (fun N O r s t w z A B C D F G H I J L M=>k1 s t w z A B C D F G H I J L M r) 1 d 4697254411347427328 0 0 0 0 0 0 0 0 4697254411347427328 0 0 4697254411347427328 0 0)))))
def f54_0 (α:Type)(a b c d e g h:Int)(i:Rows)(j l:Int)(m:Bool)(k1:Nat->Nat->Int->Nat->Nat->Int->Nat->Nat->Int->Nat->Nat->Int->Nat->Nat->Int->Int->Op α):Op α:=f54_0g L54_0_1 f85_0 f86_0 α a b c d e g h i j l m k1
def pa54_0:PT (List DV):=pA [pV false [(dMr [(dI .i64),(dI .i64),(dI .i64),(dI .i64),(dI .i64),(dI .i64),(dI .i64),dL,(dI .i64),(dI .i64)] 0)],pV false [dB]]
def Fn54_0 (v:Tf54_0)(α:Type)(k:RT α):Int->Int->Int->Int->Int->Int->Int->Rows->Int->Int->Bool->Op α:=fun l a b c d e g h i j m=>v α l a b c d e g h i j m (fun o p q r s t w z A B C D F G H I=>ur54_0_0 k o p q r s t w z A B C D F G H I a b c d e g h i j)
def cm54_0g (a:TL54_0_1):MCode:=(MCode.put (.m [⟨p54_0_2,F54_0_1 a⟩]) [1,1,0,1,0] (MCode.put (.m [⟨p54_0_0,F54_0_0 J54_0_0⟩]) [1,1,0,1,0,0,1,0,0,1,1] (emb ac54)))
def cm54_0:MCode:=cm54_0g L54_0_1
theorem gm54_0:cm54_0.Good Pg E54_0 sh54:=(put_loop (td:=td54_9) (by kernel_rfl) (put_seq (by kernel_rfl) (emb_good ac54) ⟨m54_0_0,TT⟩) ⟨m54_0_1,TT⟩)
theorem em54_0:cm54_0.erase=ac54:=((put_erase _ _).trans ((put_erase _ _).trans (emb_erase _)))
theorem fm54_0g (a:Tf85_0)(b:Tf86_0)(d:Tf29_0)(e:Tf87_0)(g:Tf56_0)(h:Tf89_0)(i:Tf88_0)(c:TL54_0_1)(α:Type)(k:RT α):Fn54_0 (f54_0g c a b) α k=pa54_0.unc fun ds=>fnM Pg (E54_0g a b d e g h i) sh54 (cm54_0g c) rs54 k ds:=by kernel_rfl
theorem fm54_0:∀ (α:Type) (k:RT α),Fn54_0 f54_0 α k=pa54_0.unc fun ds=>fnM Pg E54_0 sh54 cm54_0 rs54 k ds:=fm54_0g f85_0 f86_0 f29_0 f87_0 f56_0 f89_0 f88_0 L54_0_1
theorem is54:FnIs Pg 54 nt54 tr54 tl54 ac54 rs54:=codeF_is Tryz.func54 (by kernel_rfl)
theorem io54_0:InstOk Pg 54 nt54 ⟨pa54_0,Fn54_0 f54_0⟩:=inst_ok eo54_0 followsTry is54 ⟨⟨sh54,cm54_0,em54_0,gm54_0,fm54_0⟩⟩
abbrev nt27:Nat:=96
def sh27:SG:=[(26,[.sl]),(34,[.cpx .f64,.int .i64]),(39,[.cpx .f64,.int .i64]),(40,[.cpx .f64,.int .i64]),(47,[.cpx .f64,.int .i64]),(52,[.cpx .f64,.int .i64]),(53,[.cpx .f64,.int .i64]),(59,[.cpx .f64,.int .i64]),(60,[.cpx .f64,.int .i64]),(65,[.cpx .f64,.int .i64]),(66,[.cpx .f64,.int .i64]),(78,[.cpx .f64,.int .i64]),(79,[.cpx .f64,.int .i64]),(81,[.cpx .f64,.int .i64]),(83,[.cpx .f64,.int .i64]),(91,[.cpx .f64,.int .i64]),(92,[.cpx .f64,.int .i64]),(94,[.cpx .f64,.int .i64])]
def tr27:TG:=[tT 0 [0,1,4],tT 1 [0,1,4,5],tT 2 [0,1,4,5,6,7],tT 3 [0,1,4,5,6,7,8],tT 4 [0,1,4,5,6,7,8,9],tT 5 [0,1,4,5,7,9,10],tT 6 [0,1,4,5,7,10,11],tT 7 [0,1,4,5,7,10,11,12],tT 8 [0,4,5,7,10,11,12,68],tT 9 [0,4],tT 10 [0,4]]
def tl27:TG:=[]
def ac27:ACode:=codeF Pg Tryz.f27 tr27 tl27
def rs27:List AResV:=resF Pg Tryz.f27
def pr27_0_0:PT (List RV):=pRs [pR true [rD (dX .f64),rD (dI .i64)],pR true [rD (dI .i64),rD (dI .i64),rD (dI .i64),rD (dI .i64),rD (dI .i64),rD (dI .i64),rD (dI .i64),rD dL,rD (dI .i64),rD (dI .i64)]]
def ur27_0_0 {β:Type}(g:List RV->β):Nat->Nat->Int->Int->Int->Int->Int->Int->Int->Int->Rows->Int->Int->β:=pr27_0_0.unc g
def E27_0g (a:Tf29_0)(b:Tf54_0)(c:Tf56_0)(d:Tf55_0)(e:Tf57_0)(g:Tf58_0):EnvK:=EnvK.ofIO [⟨29,nt29,[⟨pa29_0,Fn29_0 a⟩]⟩,⟨54,nt54,[⟨pa54_0,Fn54_0 b⟩]⟩,⟨56,nt56,[⟨pa56_0,Fn56_0 c⟩]⟩,⟨55,nt55,[⟨pa55_0,Fn55_0 d⟩]⟩,⟨57,nt57,[⟨pa57_0,Fn57_0 e⟩]⟩,⟨58,nt58,[⟨pa58_0,Fn58_0 g⟩]⟩] noSeq [(29,[0]),(54,[0]),(55,[0]),(56,[0]),(57,[0]),(58,[0])]
def E27_0:EnvK:=E27_0g f29_0 f54_0 f56_0 f55_0 f57_0 f58_0
theorem eo27_0:E27_0.Ok Pg:=EnvK.ofIO_ok noSeq_ok ⟨⟨io29_0,TT⟩,⟨io54_0,TT⟩,⟨io56_0,TT⟩,⟨io55_0,TT⟩,⟨io57_0,TT⟩,⟨io58_0,TT⟩,TT⟩
abbrev Tf27_0:Type 1:=(α:Type)->Int->Int->Int->Int->Int->Int->Int->Rows->Int->Int->Bool->(Nat->Nat->Int->Int->Op α)->Op α
def f27_0g (p:Tf29_0)(L:Tf54_0)(a:Tf55_0)(b:Tf56_0)(q:Tf57_0)(M:Tf58_0)(α:Type)(N d e g h O P:Int)(c:Rows)(i j:Int)(r:Bool)(k1:Nat->Nat->Int->Int->Op α):Op α:=
 p α N d e g h c i j 0
 (fun l m o Q=>L α Q d e g h O P c i j r
 (fun R T U V W X Y Z a0 a1 a2 a3 a4 a5 a6 a7=>p α a7 d e g h c i j (w64 (((List.length c:Nat):Int)+1))
 (fun s t w a8=>b α a8 V W X s t w
 (fun a9 b0 b1 b2=>a α b2 R T U a9 b0 b1
 (fun b3 b4 b5 b6=>b α b6 a1 a2 a3 s t w
 (fun b7 b8 b9 c0=>a α c0 Y Z a0 b7 b8 b9
 (fun z A B c1=>b α c1 l m o b3 b4 b5
 (fun C D F c2=>a α c2 C D F z A B
 (fun G H I J=>cK r
 (a α J l m o l m o
 (fun c3 c4 c5 c6=>b α c6 c3 c4 c5 a4 a5 a6
 (fun c7 c8 c9 d0=>q α d0 c7 c8 c9 G H I
 (fun d1 d2 d3 d4=>k1 d1 d2 d3 d4))))
 (M α J C D F z A B
 (fun d5 d6 d7 d8=>q α d8 d5 d6 d7 G H I
 (fun d9 e0 e1 e2=>k1 d9 e0 e1 e2))))))))))))
def f27_0 (α:Type)(a b c d e g h:Int)(i:Rows)(j l:Int)(m:Bool)(k1:Nat->Nat->Int->Int->Op α):Op α:=f27_0g f29_0 f54_0 f55_0 f56_0 f57_0 f58_0 α a b c d e g h i j l m k1
def pa27_0:PT (List DV):=pA [pV false [(dMr [(dI .i64),(dI .i64),(dI .i64),(dI .i64),(dI .i64),(dI .i64),(dI .i64),dL,(dI .i64),(dI .i64)] 0)],pV false [dB]]
def Fn27_0 (v:Tf27_0)(α:Type)(k:RT α):Int->Int->Int->Int->Int->Int->Int->Rows->Int->Int->Bool->Op α:=fun l a b c d e g h i j m=>v α l a b c d e g h i j m (fun o p q r=>ur27_0_0 k o p q r a b c d e g h i j)
def cm27_0g:MCode:=(emb ac27)
def cm27_0:MCode:=cm27_0g
theorem gm27_0:cm27_0.Good Pg E27_0 sh27:=(emb_good ac27)
theorem em27_0:cm27_0.erase=ac27:=(emb_erase _)
theorem fm27_0g (a:Tf29_0)(b:Tf54_0)(c:Tf56_0)(d:Tf55_0)(e:Tf57_0)(g:Tf58_0)(α:Type)(k:RT α):Fn27_0 (f27_0g a b d c e g) α k=pa27_0.unc fun ds=>fnM Pg (E27_0g a b c d e g) sh27 (cm27_0g ) rs27 k ds:=by kernel_rfl
theorem fm27_0:∀ (α:Type) (k:RT α),Fn27_0 f27_0 α k=pa27_0.unc fun ds=>fnM Pg E27_0 sh27 cm27_0 rs27 k ds:=fm27_0g f29_0 f54_0 f56_0 f55_0 f57_0 f58_0
theorem is27:FnIs Pg 27 nt27 tr27 tl27 ac27 rs27:=codeF_is Tryz.func27 (by kernel_rfl)
theorem io27_0:InstOk Pg 27 nt27 ⟨pa27_0,Fn27_0 f27_0⟩:=inst_ok eo27_0 followsTry is27 ⟨⟨sh27,cm27_0,em27_0,gm27_0,fm27_0⟩⟩
abbrev nt8:Nat:=123
def sh8:SG:=[(17,[.int .i64,.int .i64,.int .i64,.int .i64,.int .i64,.int .i64,.sl,.int .i64,.int .i64]),(30,[.sl]),(58,iT),(65,iT),(67,iT),(71,[.cpx .f64,.int .i64]),(80,[.cpx .f64,.int .i64]),(88,iS 2),(90,iS 2),(93,iT),(95,iT),(98,iT),(101,iT),(103,iT),(106,iT),(117,iS 2),(119,iS 2),(122,iS 6)]
def tr8:TG:=[tT 0 [1,2],tT 1 [1,2,4,5],tT 2 [1,2,4,5,22],tT 3 [2,3],tT 4 [1,2,4,6],tT 5 [1,2,4,6,7],tT 6 [2,4,6,7,8],tT 7 [2,4,6,7,8,9,10],tT 8 [2,4,6,7,9,10,12],tT 9 [2,4,6,7,9,10,12,59],tT 10 [2,3],tT 11 [2,4,6,7,9,10,12,68],tT 12 [2,3],tT 13 [2,4,5,7,9,10,12,13],tT 14 [2,4,5,7,9,10,12,13,76],tT 15 [2,3],tT 16 [2,4,5,9,10,12,13,14],tT 17 [2,4,5,9,10,12,13,14,85],tT 18 [2,3],tT 19 [2,4,9,10,12,13,14],tT 20 [2,4,12,15],tT 21 [2,4,15,111],tT 22 [2,4,15],tT 23 [2,15,115],tT 24 [2,15],tT 25 [2,3]]
def tl8:TG:=[]
def ac8:ACode:=codeF Pg Tryz.f8 tr8 tl8
def rs8:List AResV:=resF Pg Tryz.f8
def p8_0_0:PT St:=pS [sP 2,sl 4 (aV false [(cPtr 18 0)]),sY 12 dB,sP 15] [eBox 2 (xs 6),eBox 18 [xI,xI,xI,xI,xI,xI,xI,(cD dL),xI,xI],eBox 15 (xs 6)]
def u8_0_0 {β:Type}(g:St->β):Bool->Int->Int->Int->Int->Int->Int->Int->Int->Int->Int->Int->Int->Int->Rows->I8 β:=p8_0_0.unc g
def p8_0_1:PT St:=pS [sP 2,sl 4 (aV false [(cPtr 18 0)]),sP 15] [eBox 2 (xs 6),eBox 18 [xI,xI,xI,xI,xI,xI,xI,(cD dL),xI,xI],eBox 15 (xs 6)]
def u8_0_1 {β:Type}(g:St->β):Int->Int->Int->Int->Int->Int->Int->Int->Int->Int->Int->Int->Int->Rows->I8 β:=p8_0_1.unc g
def p8_0_2:PT St:=pS [sP 2,sl 4 (aV false [(cPtr 18 0)]),sP 15,sY 111 dB] [eBox 2 (xs 6),eBox 18 [xI,xI,xI,xI,xI,xI,xI,(cD dL),xI,xI],eBox 15 (xs 6)]
def u8_0_2 {β:Type}(g:St->β):Bool->Int->Int->Int->Int->Int->Int->Int->Int->Int->Int->Int->Int->Int->Rows->I8 β:=p8_0_2.unc g
def pr8_0_0:PT (List RV):=pRs [pR true [rD (dI .i64),rD (dI .i64),rD (dI .i64),rD (dI .i64),rD (dI .i64),rD (dI .i64)],wI]
def ur8_0_0 {β:Type}(g:List RV->β):I7 β:=pr8_0_0.unc g
def E8_0g (a:Tf26_0)(b:Tf27_0)(c:Tf29_0)(d:Tf28_0)(e:Tf30_0)(g:Tf31_0)(h:Tf32_0)(i:Tf33_0)(j:Tf34_0)(l:Tf35_0)(m:Tf36_0)(o:Tf37_0):EnvK:=EnvK.ofIO [⟨26,nt26,[⟨pa26_0,Fn26_0 a⟩]⟩,⟨27,nt27,[⟨pa27_0,Fn27_0 b⟩]⟩,⟨29,nt29,[⟨pa29_0,Fn29_0 c⟩]⟩,⟨28,nt28,[⟨pa28_0,Fn28_0 d⟩]⟩,⟨30,nt30,[⟨pa30_0,Fn30_0 e⟩]⟩,⟨31,nt31,[⟨pa31_0,Fn31_0 g⟩]⟩,⟨32,nt32,[⟨pa32_0,Fn32_0 h⟩]⟩,⟨33,nt33,[⟨pa33_0,Fn33_0 i⟩]⟩,⟨34,nt34,[⟨pa34_0,Fn34_0 j⟩]⟩,⟨35,nt35,[⟨pa35_0,Fn35_0 l⟩]⟩,⟨36,nt36,[⟨pa36_0,Fn36_0 m⟩]⟩,⟨37,nt37,[⟨pa37_0,Fn37_0 o⟩]⟩] noSeq [(27,[0]),(28,[0]),(29,[0]),(30,[0]),(36,[0])]
def E8_0:EnvK:=E8_0g f26_0 f27_0 f29_0 f28_0 f30_0 f31_0 f32_0 f33_0 f34_0 f35_0 f36_0 f37_0
theorem eo8_0:E8_0.Ok Pg:=EnvK.ofIO_ok noSeq_ok ⟨⟨io26_0,TT⟩,⟨io27_0,TT⟩,⟨io29_0,TT⟩,⟨io28_0,TT⟩,⟨io30_0,TT⟩,⟨io31_0,TT⟩,⟨io32_0,TT⟩,⟨io33_0,TT⟩,⟨io34_0,TT⟩,⟨io35_0,TT⟩,⟨io36_0,TT⟩,⟨io37_0,TT⟩,TT⟩
def c8_0_53g:MCode:=MCode.sub [1,1,1,1,1,1,1,1,1,1,1,1,1,1,1,1,0] (emb ac8)
def c8_0_53:MCode:=c8_0_53g
abbrev TJ8_0_0:Type 1:=(α:Type)->Bool->(Op α)->(Op α)->Op α
def J8_0_0g (α:Type)(a:Bool)(k1:Op α)(k2:Op α):Op α:=
 cK a
 (k1)
 (k2)
def J8_0_0 (α:Type)(a:Bool)(k1:Op α)(k2:Op α):Op α:=J8_0_0g α a k1 k2
def F8_0_0 (v:TJ8_0_0)(α:Type)(K:KT α):Bool->Int->Int->Int->Int->Int->Int->Int->Int->Int->Int->Int->Int->Int->Rows->I8 (Op α):=fun a b c d e g h i j l m o p q r s t w z C D A B=>v α a (u8_0_1 (K .normal) b c d e g h i j l m o p q r s t w z 0 0 A B) (u8_0_2 (K .normal) a b c d e g h i j l m o p q r s t w z C D A B)
theorem m8_0_0g (a:Tf26_0)(b:Tf27_0)(c:Tf29_0)(d:Tf28_0)(e:Tf30_0)(g:Tf31_0)(h:Tf32_0)(i:Tf33_0)(j:Tf34_0)(l:Tf35_0)(m:Tf36_0)(o:Tf37_0)(α:Type)(K:KT α):F8_0_0 (J8_0_0g ) α K=p8_0_0.unc fun σ=>runM Pg (E8_0g a b c d e g h i j l m o) sh8 (c8_0_53g ) K σ:=by kernel_rfl
theorem m8_0_0:∀ (α:Type) (K:KT α),F8_0_0 J8_0_0 α K=p8_0_0.unc fun σ=>runM Pg E8_0 sh8 c8_0_53 K σ:=m8_0_0g f26_0 f27_0 f29_0 f28_0 f30_0 f31_0 f32_0 f33_0 f34_0 f35_0 f36_0 f37_0
abbrev Tf8_0:Type 1:=(α:Type)->Int->Int->Int->Int->Int->Int->Rows->Int->Int->(I7 (Op α))->Op α
def f8_0g (H:TJ8_0_0)(I:Tf26_0)(q:Tf27_0)(r:Tf28_0)(s:Tf29_0)(J:Tf30_0)(t:Tf31_0)(L:Tf32_0)(w:Tf33_0)(M:Tf34_0)(N:Tf35_0)(z:Tf36_0)(A:Tf37_0)(α:Type)(b e g j l m:Int)(a:Rows)(c d:Int)(k1:I7 (Op α)):Op α:=
 I α b e g j l m a c d
 (fun B=>cK (B != 0)
 (k1 0 0 0 0 0 0 B)
 (q α 0 b e g j l m a c d false
 (fun O P Q R=>q α R b e g j l m a c d true
 (fun T U V W=>s α W b e g j a c d (w64 (((List.length a:Nat):Int)+1))
 (fun X Y Z a0=>r α a0 X Y Z
 (fun a1 a2 c5 c6 a3=>s α a3 b e g j a c d 0
 (fun a4 a5 a6 a7=>r α a7 a4 a5 a6
 (fun C a8 c7 c8 a9=>J α a9 b e g a c d (w64 (((List.length a:Nat):Int)+1))
 (fun c9 d0 d1 b0 D=>cK (D != 0)
 (k1 0 0 0 0 0 0 D)
 (cK (decide (C<=0))
 (k1 0 0 0 0 0 0 9)
 (t α O P Q
 (fun b1 b2 F=>cK (F != 0)
 (k1 0 0 0 0 0 0 F)
 (t α T U V
 (fun b3 b4 G=>cK (G != 0)
 (k1 0 0 0 0 0 0 G)
 (L α a1 a2
 (fun b5 b6=>w α b1 b2
 (fun h i=>M α (w64 (b5*b3)) a8
 (fun b7=>N α (w64 (b6*b4)) C
 (fun b8=>w α b7 b8
 (fun o p=>H α b0
 (z α b a c d
 (fun b9=>cK b9
 (A α h i 0 0
 (fun c0 c1=>k1 h i 0 0 c0 c1 0))
 (k1 h i 0 0 0 0 0)))
 (z α b a c d
 (fun c2=>cK c2
 (A α h i o p
 (fun c3 c4=>k1 h i o p c3 c4 0))
 (k1 h i o p 0 0 0)))))))))))))))))))))))
def f8_0 (α:Type)(a b c d e g:Int)(h:Rows)(i j:Int)(k1:I7 (Op α)):Op α:=f8_0g J8_0_0 f26_0 f27_0 f28_0 f29_0 f30_0 f31_0 f32_0 f33_0 f34_0 f35_0 f36_0 f37_0 α a b c d e g h i j k1
def pa8_0:PT (List DV):=pA [pV true [(dI .i64),(dI .i64),(dI .i64),(dI .i64),(dI .i64),(dI .i64),dL,(dI .i64),(dI .i64)]]
def Fn8_0 (v:Tf8_0)(α:Type)(k:RT α):Int->Int->Int->Int->Int->Int->Rows->Int->Int->Op α:=fun a b c d e g h i j=>v α a b c d e g h i j (fun l m o p q r s=>ur8_0_0 k l m o p q r s)
def cm8_0g (a:TJ8_0_0):MCode:=(MCode.put (.m [⟨p8_0_0,F8_0_0 a⟩]) [1,1,1,1,1,1,1,1,1,1,1,1,1,1,1,1] (emb ac8))
def cm8_0:MCode:=cm8_0g J8_0_0
theorem gm8_0:cm8_0.Good Pg E8_0 sh8:=(put_seq (by kernel_rfl) (emb_good ac8) ⟨m8_0_0,TT⟩)
theorem em8_0:cm8_0.erase=ac8:=((put_erase _ _).trans (emb_erase _))
theorem fm8_0g (a:Tf26_0)(b:Tf27_0)(c:Tf29_0)(d:Tf28_0)(e:Tf30_0)(g:Tf31_0)(h:Tf32_0)(i:Tf33_0)(j:Tf34_0)(l:Tf35_0)(m:Tf36_0)(o:Tf37_0)(p:TJ8_0_0)(α:Type)(k:RT α):Fn8_0 (f8_0g p a b d c e g h i j l m o) α k=pa8_0.unc fun ds=>fnM Pg (E8_0g a b c d e g h i j l m o) sh8 (cm8_0g p) rs8 k ds:=by kernel_rfl
theorem fm8_0:∀ (α:Type) (k:RT α),Fn8_0 f8_0 α k=pa8_0.unc fun ds=>fnM Pg E8_0 sh8 cm8_0 rs8 k ds:=fm8_0g f26_0 f27_0 f29_0 f28_0 f30_0 f31_0 f32_0 f33_0 f34_0 f35_0 f36_0 f37_0 J8_0_0
theorem is8:FnIs Pg 8 nt8 tr8 tl8 ac8 rs8:=codeF_is Tryz.func8 (by kernel_rfl)
theorem io8_0:InstOk Pg 8 nt8 ⟨pa8_0,Fn8_0 f8_0⟩:=inst_ok eo8_0 followsTry is8 ⟨⟨sh8,cm8_0,em8_0,gm8_0,fm8_0⟩⟩
abbrev nt24:Nat:=33
def sh24:SG:=[(10,[.sl,.sl,.int .i64,.int .i64]),(12,iS 9),(13,iS 4),(23,iS 2),(25,iS 2),(27,iS 2),(31,iT)]
def tr24:TG:=[tT 0 [2,3,4],tT 1 [2,4,6,7],tT 2 [2,4,6,7,19],tT 3 [4,5],tT 4 [4,5]]
def tl24:TG:=[]
def ac24:ACode:=codeF Pg Tryz.f24 tr24 tl24
def rs24:List AResV:=resF Pg Tryz.f24
def pr24_0_0:PT (List RV):=pRs [pR true [rD (dI .i64),rD (dI .i64)],wI]
def ur24_0_0 {β:Type}(g:List RV->β):Int->Int->Int->β:=pr24_0_0.unc g
def E24_0g (a:Tf52_0)(b:Tf8_0):EnvK:=EnvK.of [⟨52,nt52,[⟨pa52_0,Fn52_0 a⟩]⟩,⟨8,nt8,[⟨pa8_0,Fn8_0 b⟩]⟩] noSeq
def E24_0:EnvK:=E24_0g f52_0 f8_0
theorem eo24_0:E24_0.Ok Pg:=EnvK.of_ok noSeq_ok ⟨⟨io52_0,TT⟩,⟨io8_0,TT⟩,TT⟩
abbrev Tf24_0:Type 1:=(α:Type)->Rows->Int->Int->Int->Int->Int->Int->Int->Int->Int->(Int->Int->Int->Op α)->Op α
def f24_0g (c:Tf52_0)(d:Tf8_0)(α:Type)(e:Rows)(g h a i j l m o p:Int)(k1:Int->Int->Int->Op α):Op α:=
 c α
 (d α j o p i l m e g h
 (fun q r s t w z b=>cK (b != 0)
 (k1 0 0 b)
 (cK (a == 2)
 (k1 w z 0)
 (cK (a == 1)
 (k1 s t 0)
 (cK (a == 0)
 (k1 q r 0)
 (none))))))
def f24_0 (α:Type)(a:Rows)(b c d e g h i j l:Int)(k1:Int->Int->Int->Op α):Op α:=f24_0g f52_0 f8_0 α a b c d e g h i j l k1
def pa24_0:PT (List DV):=pA [pV true [dL,dL,(dI .i64),(dI .i64),(dI .i64),(dI .i64),(dI .i64),(dI .i64),(dI .i64),(dI .i64),(dI .i64),(dI .i64),(dI .i64)],pV true [(dI .i64),(dI .i64),(dI .i64),(dI .i64)]]
def Fn24_0 (v:Tf24_0)(α:Type)(k:RT α):Rows->Rows->I15 (Op α):=fun q a b c d e g r s t w z A h i j l=>v α a b c d e g h i j l (fun m o p=>ur24_0_0 k m o p)
def cm24_0g:MCode:=(emb ac24)
def cm24_0:MCode:=cm24_0g
theorem gm24_0:cm24_0.Good Pg E24_0 sh24:=(emb_good ac24)
theorem em24_0:cm24_0.erase=ac24:=(emb_erase _)
theorem fm24_0g (a:Tf52_0)(b:Tf8_0)(α:Type)(k:RT α):Fn24_0 (f24_0g a b) α k=pa24_0.unc fun ds=>fnM Pg (E24_0g a b) sh24 (cm24_0g ) rs24 k ds:=by kernel_rfl
theorem fm24_0:∀ (α:Type) (k:RT α),Fn24_0 f24_0 α k=pa24_0.unc fun ds=>fnM Pg E24_0 sh24 cm24_0 rs24 k ds:=fm24_0g f52_0 f8_0
theorem is24:FnIs Pg 24 nt24 tr24 tl24 ac24 rs24:=codeF_is Tryz.func24 (by kernel_rfl)
theorem io24_0:InstOk Pg 24 nt24 ⟨pa24_0,Fn24_0 f24_0⟩:=inst_ok eo24_0 followsTry is24 ⟨⟨sh24,cm24_0,em24_0,gm24_0,fm24_0⟩⟩
abbrev nt70:Nat:=52
def sh70:SG:=[(12,[.sl,.sl,.int .i64,.int .i64,.int .i64,.int .i64,.int .i64,.int .i64,.int .i64,.int .i64,.int .i64,.int .i64,.int .i64]),(13,iS 4),(18,iT),(21,iT),(25,iT),(29,iT)]
def tr70:TG:=[tT 0 [2,3],tT 1 [2,5,6],tT 2 [6,7,8,9,10],tT 3 [7,8,9,10,31],tT 4 [4],tT 5 [7,8,9,10,34],tT 6 [4],tT 7 [43],tT 8 [4],tT 9 [4]]
def tl70:TG:=[]
def ac70:ACode:=codeF Pg Tryz.f70 tr70 tl70
def rs70:List AResV:=resF Pg Tryz.f70
def p70_0_0:PT St:=pS [sI 7,sI 8,sI 9,sI 10,sY 31 dB] []
def u70_0_0 {β:Type}(g:St->β):Int->Int->Int->Int->Bool->β:=p70_0_0.unc g
def p70_0_1:PT St:=pS [sI 7,sI 8,sI 9,sI 10,sY 34 dB] []
def u70_0_1 {β:Type}(g:St->β):Int->Int->Int->Int->Bool->β:=p70_0_1.unc g
def pr70_0_0:PT (List RV):=pRs [wI]
def ur70_0_0 {β:Type}(g:List RV->β):Int->β:=pr70_0_0.unc g
def E70_0g (a:Tf24_0):EnvK:=EnvK.of [⟨24,nt24,[⟨pa24_0,Fn24_0 a⟩]⟩] noSeq
def E70_0:EnvK:=E70_0g f24_0
theorem eo70_0:E70_0.Ok Pg:=EnvK.of_ok noSeq_ok ⟨⟨io24_0,TT⟩,TT⟩
def c70_0_14g:MCode:=MCode.sub [1,1,1,0,0,1,1,0] (emb ac70)
def c70_0_14:MCode:=c70_0_14g
abbrev TJ70_0_0:Type 1:=(α:Type)->Int->Int->Int->Int->(Bool->Op α)->Op α
def J70_0_0g (α:Type)(a b c d:Int)(k1:Bool->Op α):Op α:=
 cK (decide (c<=a))
 (k1 (decide (b<=d)))
 (k1 false)
def J70_0_0 (α:Type)(a b c d:Int)(k1:Bool->Op α):Op α:=J70_0_0g α a b c d k1
def F70_0_0 (v:TJ70_0_0)(α:Type)(K:KT α):I4 (Bool->Op α):=fun a b c d g=>v α a b c d (fun e=>u70_0_1 (K .normal) a b c d e)
theorem m70_0_0g (a:Tf24_0)(α:Type)(K:KT α):F70_0_0 (J70_0_0g ) α K=p70_0_0.unc fun σ=>runM Pg (E70_0g a) sh70 (c70_0_14g ) K σ:=by kernel_rfl
theorem m70_0_0:∀ (α:Type) (K:KT α),F70_0_0 J70_0_0 α K=p70_0_0.unc fun σ=>runM Pg E70_0 sh70 c70_0_14 K σ:=m70_0_0g f24_0
abbrev Tf70_0:Type 1:=(α:Type)->Rows->Int->Int->Int->Int->Int->Int->Int->Int->Int->Int->Int->(Int->Op α)->Op α
def f70_0g (e:TJ70_0_0)(g:Tf24_0)(α:Type)(h:Rows)(i j l m o a b p q r s:Int)(k1:Int->Op α):Op α:=
 g α h i j l m o p q r s
 (fun c d t=>cK (t != 0)
 (k1 1)
 (e α (w64 (c*10000)) (w64 (d*10000)) (w64 (a*1048576)) (w64 (b*1048576))
 (fun w=>cK w
 (k1 2)
 (cK (decide ((w64 (d*10000)) < (w64 (a*1048576))))
 (k1 0)
 (cK (decide ((w64 (b*1048576)) < (w64 (c*10000))))
 (k1 0)
 (k1 1))))))
def f70_0 (α:Type)(a:Rows)(b c d e g h i j l m o:Int)(k1:Int->Op α):Op α:=f70_0g J70_0_0 f24_0 α a b c d e g h i j l m o k1
def pa70_0:PT (List DV):=pA [pV true [dL,dL,(dI .i64),(dI .i64),(dI .i64),(dI .i64),(dI .i64),(dI .i64),(dI .i64),(dI .i64),(dI .i64),(dI .i64),(dI .i64)],pV true [(dI .i64),(dI .i64),(dI .i64),(dI .i64)]]
def Fn70_0 (v:Tf70_0)(α:Type)(k:RT α):Rows->Rows->I15 (Op α):=fun q a b c d e g r s t w h i j l m o=>v α a b c d e g h i j l m o (fun p=>ur70_0_0 k p)
def cm70_0g (a:TJ70_0_0):MCode:=(MCode.put (.m [⟨p70_0_0,F70_0_0 a⟩]) [1,1,1,0,0,1,1] (emb ac70))
def cm70_0:MCode:=cm70_0g J70_0_0
theorem gm70_0:cm70_0.Good Pg E70_0 sh70:=(put_seq (by kernel_rfl) (emb_good ac70) ⟨m70_0_0,TT⟩)
theorem em70_0:cm70_0.erase=ac70:=((put_erase _ _).trans (emb_erase _))
theorem fm70_0g (a:Tf24_0)(b:TJ70_0_0)(α:Type)(k:RT α):Fn70_0 (f70_0g b a) α k=pa70_0.unc fun ds=>fnM Pg (E70_0g a) sh70 (cm70_0g b) rs70 k ds:=by kernel_rfl
theorem fm70_0:∀ (α:Type) (k:RT α),Fn70_0 f70_0 α k=pa70_0.unc fun ds=>fnM Pg E70_0 sh70 cm70_0 rs70 k ds:=fm70_0g f24_0 J70_0_0
theorem is70:FnIs Pg 70 nt70 tr70 tl70 ac70 rs70:=codeF_is Tryz.func70 (by kernel_rfl)
theorem io70_0:InstOk Pg 70 nt70 ⟨pa70_0,Fn70_0 f70_0⟩:=inst_ok eo70_0 followsTry is70 ⟨⟨sh70,cm70_0,em70_0,gm70_0,fm70_0⟩⟩
abbrev nt23:Nat:=21
def sh23:SG:=[(9,[.sl,.sl,.int .i64,.int .i64,.int .i64,.int .i64,.int .i64,.int .i64,.int .i64,.int .i64,.int .i64,.int .i64,.int .i64]),(10,iS 4),(15,[.sl]),(16,iS 2),(19,iT)]
def tr23:TG:=[tT 0 [1,2,3,4],tT 1 [2,3,6,7],tT 2 [2,3,6],tT 3 [2,3],tT 4 [2,3,5]]
def tl23:TG:=[]
def ac23:ACode:=codeF Pg Tryz.f23 tr23 tl23
def rs23:List AResV:=resF Pg Tryz.f23
def pr23_0_0:PT (List RV):=pRs [pR false [rD dB],pR true [rD (dI .i64)],pR true [rO 2]]
def ur23_0_0 {β:Type}(g:List RV->β):Bool->Int->Rows->β:=pr23_0_0.unc g
def E23_0g (a:Tf24_0):EnvK:=EnvK.of [⟨24,nt24,[⟨pa24_0,Fn24_0 a⟩]⟩] noSeq
def E23_0:EnvK:=E23_0g f24_0
theorem eo23_0:E23_0.Ok Pg:=EnvK.of_ok noSeq_ok ⟨⟨io24_0,TT⟩,TT⟩
abbrev Tf23_0:Type 1:=(α:Type)->Int->Int->Int->Int->Rows->Int->Int->Int->Int->Int->(Bool->Int->Rows->Op α)->Op α
def f23_0g (b:Tf24_0)(α:Type)(c d e g:Int)(h:Rows)(i j l m o:Int)(k1:Bool->Int->Rows->Op α):Op α:=
 b α h i j l m o c d e g
 (fun p q a=>k1 (a == 0) a [[DC.v (.int .i64 p),DC.v (.int .i64 q)]])
def f23_0 (α:Type)(a b c d:Int)(e:Rows)(g h i j l:Int)(k1:Bool->Int->Rows->Op α):Op α:=f23_0g f24_0 α a b c d e g h i j l k1
def pa23_0:PT (List DV):=pA [pV true [(dI .i64),(dI .i64),(dI .i64),(dI .i64)],pV false [(dP [dL,dL,(dI .i64),(dI .i64),(dI .i64),(dI .i64),(dI .i64),(dI .i64),(dI .i64),(dI .i64),(dI .i64),(dI .i64),(dI .i64)] 0)],pV false [(dMr [(dI .i64)] 0)],pV false [(dMr [dON] 0)]]
def Fn23_0 (v:Tf23_0)(α:Type)(k:RT α):Int->Int->Int->Int->Rows->Rows->I12 (Op α):=fun a b c d q e g h i j l r s t w z A B=>v α a b c d e g h i j l (fun m o p=>ur23_0_0 k m o p)
def cm23_0g:MCode:=(emb ac23)
def cm23_0:MCode:=cm23_0g
theorem gm23_0:cm23_0.Good Pg E23_0 sh23:=(emb_good ac23)
theorem em23_0:cm23_0.erase=ac23:=(emb_erase _)
theorem fm23_0g (a:Tf24_0)(α:Type)(k:RT α):Fn23_0 (f23_0g a) α k=pa23_0.unc fun ds=>fnM Pg (E23_0g a) sh23 (cm23_0g ) rs23 k ds:=by kernel_rfl
theorem fm23_0:∀ (α:Type) (k:RT α),Fn23_0 f23_0 α k=pa23_0.unc fun ds=>fnM Pg E23_0 sh23 cm23_0 rs23 k ds:=fm23_0g f24_0
theorem is23:FnIs Pg 23 nt23 tr23 tl23 ac23 rs23:=codeF_is Tryz.func23 (by kernel_rfl)
theorem io23_0:InstOk Pg 23 nt23 ⟨pa23_0,Fn23_0 f23_0⟩:=inst_ok eo23_0 followsTry is23 ⟨⟨sh23,cm23_0,em23_0,gm23_0,fm23_0⟩⟩
abbrev nt38:Nat:=82
def sh38:SG:=[(16,iT),(20,[.sl]),(26,[.sl]),(30,iT),(31,iT),(32,iT),(36,iT),(48,iT),(55,[.sl,.sl,.int .i64,.int .i64,.int .i64,.int .i64,.int .i64,.int .i64,.int .i64,.int .i64,.int .i64,.int .i64,.int .i64]),(56,iS 4),(62,iS 4),(69,iS 8),(74,iS 4)]
def tr38:TG:=[tT 0 [0,2,4],tT 1 [0,2,4,22],tT 2 [0,6],tT 3 [0,2,4,7],tT 4 [0,2,4,7],tT 5 [0,2,4,7,42],tT 6 [0,6],tT 7 [0,2,4,7,44],tT 8 [0,4],tT 9 [0,58],tT 10 [0,6],tT 11 [0,6],tT 12 [0,2,4,7,60],tT 13 [0,6],tT 14 [0,2,8,9],tT 15 [0,2,8,68],tT 16 [0,6],tT 17 [0,2,69,70],tT 18 [0,2,69,70,71],tT 19 [0,2,11,69,70],tT 20 [0,2,12,69,70],tT 21 [0,2,12,69,70,79],tT 22 [0,6],tT 23 [0,2,69,70],tT 24 [0,6]]
def tl38:TG:=[tT 18 [0,2,69,70]]
def ac38:ACode:=codeF Pg Tryz.f38 tr38 tl38
def rs38:List AResV:=resF Pg Tryz.f38
def td38_51:OT:=tdC (MCode.sub [1,1,1,1,1,1,1,1,1,0,1,0] (emb ac38))
def p38_0_0:PT St:=pSv [(0,500000000,0)] [sl 0 (aV false [(cPtr 500000000 0)]),sI 2,sl 69 (aV true (xs 8)),sI 70,sY 71 dB] [eBox 500000000 [(cRef 500000001),(cRef 500000002),xI,xI,xI,xI,xI,xI,xI,xI,xI,xI,xI,(cD dL),xI,xI],eOwn 500000001 9,eOwn 500000002 5]
def u38_0_0 {β:Type}(g:St->β):Int->Int->Int->Int->Int->Int->Int->Int->Int->Int->Bool->Int->Int->Int->Int->Int->Int->Int->Int->Int->Int->Int->Rows->Int->Int->Rows->Rows->β:=p38_0_0.unc g
def p38_0_1:PT St:=pSv [(0,500000000,0)] [sl 0 (aV false [(cPtr 500000000 0)]),sI 2,sP 11,sl 69 (aV true (xs 8)),sI 70] [eBox 500000000 [(cRef 500000001),(cRef 500000002),xI,xI,xI,xI,xI,xI,xI,xI,xI,xI,xI,(cD dL),xI,xI],eOwn 500000001 9,eOwn 500000002 5,eBox 11 (xs 4)]
def u38_0_1 {β:Type}(g:St->β):Int->Int->Int->Int->Int->Int->Int->Int->Int->Int->Int->Int->Int->Int->Int->Int->Int->Int->Int->Int->Int->Rows->Int->Int->Rows->Rows->I4 β:=p38_0_1.unc g
def p38_0_2:PT St:=pSv [(0,500000000,0)] [sl 0 (aV false [(cPtr 500000000 0)]),sI 2,sl 69 (aV true (xs 8)),sI 70] [eBox 500000000 [(cRef 500000001),(cRef 500000002),xI,xI,xI,xI,xI,xI,xI,xI,xI,xI,xI,(cD dL),xI,xI],eOwn 500000001 9,eOwn 500000002 5]
def u38_0_2 {β:Type}(g:St->β):Int->Int->Int->Int->Int->Int->Int->Int->Int->Int->Int->Int->Int->Int->Int->Int->Int->Int->Int->Int->Int->Rows->Int->Int->Rows->Rows->β:=p38_0_2.unc g
def pr38_0_0:PT (List RV):=pRs [wI,pR true [rO 9,rO 5,rD (dI .i64),rD (dI .i64),rD (dI .i64),rD (dI .i64),rD (dI .i64),rD (dI .i64),rD (dI .i64),rD (dI .i64),rD (dI .i64),rD (dI .i64),rD (dI .i64),rD dL,rD (dI .i64),rD (dI .i64)]]
def ur38_0_0 {β:Type}(g:List RV->β):Int->Rows->Rows->Int->Int->Int->Int->Int->Int->Int->Int->Int->Int->Int->Rows->Int->Int->β:=pr38_0_0.unc g
def E38_0g (a:Tf20_0)(b:Tf70_0)(c:Tf51_0):EnvK:=EnvK.of [⟨20,nt20,[⟨pa20_0,Fn20_0 a⟩]⟩,⟨70,nt70,[⟨pa70_0,Fn70_0 b⟩]⟩,⟨51,nt51,[⟨pa51_0,Fn51_0 c⟩]⟩] noSeq
def E38_0:EnvK:=E38_0g f20_0 f70_0 f51_0
theorem eo38_0:E38_0.Ok Pg:=EnvK.of_ok noSeq_ok ⟨⟨io20_0,TT⟩,⟨io70_0,TT⟩,⟨io51_0,TT⟩,TT⟩
def c38_0_58g:MCode:=MCode.sub [1,1,1,1,1,1,1,1,1,0,1,0,0,1,1,0,0,0] (emb ac38)
def c38_0_58:MCode:=c38_0_58g
abbrev TJ38_0_0:Type 1:=(α:Type)->Int->Int->Int->Int->Int->Int->Int->Int->Int->(I4 (Op α))->Op α
def J38_0_0g (α:Type)(b c d e g h i j a:Int)(k1:I4 (Op α)):Op α:=
 cK (a == 1)
 (k1 g h i j)
 (cK (a == 0)
 (k1 b c d e)
 (none))
def J38_0_0 (α:Type)(a b c d e g h i j:Int)(k1:I4 (Op α)):Op α:=J38_0_0g α a b c d e g h i j k1
def F38_0_0 (v:TJ38_0_0)(α:Type)(K:KT α):Int->Int->Int->Int->Int->Int->Int->Int->Int->Int->Bool->Int->Int->Int->Int->Int->Int->Int->Int->Int->Int->Int->Rows->Int->Int->Rows->Rows->Op α:=fun l a b c d e g h i j N m o p q r s t w z A B C D F G H=>v α a b c d e g h i j (fun I J L M=>u38_0_1 (K .normal) l a b c d e g h i j m o p q r s t w z A B C D F G H I J L M)
theorem m38_0_0g (a:Tf20_0)(b:Tf70_0)(c:Tf51_0)(α:Type)(K:KT α):F38_0_0 (J38_0_0g ) α K=p38_0_0.unc fun σ=>runM Pg (E38_0g a b c) sh38 (c38_0_58g ) K σ:=by kernel_rfl
theorem m38_0_0:∀ (α:Type) (K:KT α),F38_0_0 J38_0_0 α K=p38_0_0.unc fun σ=>runM Pg E38_0 sh38 c38_0_58 K σ:=m38_0_0g f20_0 f70_0 f51_0
def c38_0_51g (a:TJ38_0_0):MCode:=MCode.sub [1,1,1,1,1,1,1,1,1,0,1,0,0] (MCode.put (.m [⟨p38_0_0,F38_0_0 a⟩]) [1,1,1,1,1,1,1,1,1,0,1,0,0,1,1,0,0] (emb ac38))
def c38_0_51:MCode:=c38_0_51g J38_0_0
def S38_0_1g (b:TJ38_0_0)(α:Type)(c d e g h i j l a:Int)(kn:Op α)(k1:Bool->Op α):Op α:=
 cK (decide (a < 2))
 (b α c d e g h i j l a
 (fun m o p q=>none))
 (k1 (decide (a < 2)))
def S38_0_1 (α:Type)(a b c d e g h i j:Int)(kn:Op α)(k1:Bool->Op α):Op α:=S38_0_1g J38_0_0 α a b c d e g h i j kn k1
def R38_0_1 (α:Type)(a b c d e g h i j:Int)(k1:Bool->Op α):Nat->Op α
 | 0=>none
 | n+1=>S38_0_1 α a b c d e g h i j (R38_0_1 α a b c d e g h i j k1 n) k1
def L38_0_1 (α:Type)(a b c d e g h i j:Int)(k1:Bool->Op α):Op α:=R38_0_1 α a b c d e g h i j k1 fuel
abbrev TL38_0_1:Type 1:=(α:Type)->Int->Int->Int->Int->Int->Int->Int->Int->Int->(Bool->Op α)->Op α
def F38_0_1 (v:TL38_0_1)(α:Type)(K:KT α):Int->Int->Int->Int->Int->Int->Int->Int->Int->Int->Int->Int->Int->Int->Int->Int->Int->Int->Int->Int->Int->Rows->Int->Int->Rows->Rows->Op α:=fun l a b c d e g h i j m o p q r s t w z A B C D F G H=>v α a b c d e g h i j (fun I=>u38_0_0 (K (.exit 0)) l a b c d e g h i j I m o p q r s t w z A B C D F G H)
theorem r38_0_1g (J:Tf20_0)(L:Tf70_0)(M:Tf51_0)(I:TJ38_0_0)(α:Type)(K:KT α)(Kn:SK α)(l a b c d e g h i j m o p q r s t w z A B:Int)(C:Rows)(D F:Int)(G H:Rows):u38_0_2 (fun σ=>runM Pg (E38_0g J L M) sh38 (c38_0_51g I) (thenK (fun σ=>tidyK td38_51 σ Kn) K) σ) l a b c d e g h i j m o p q r s t w z A B C D F G H=S38_0_1g I α a b c d e g h i j (u38_0_2 Kn l a b c d e g h i j m o p q r s t w z A B C D F G H) (fun N=>u38_0_0 (K (.exit 0)) l a b c d e g h i j N m o p q r s t w z A B C D F G H):=by kernel_rfl
theorem r38_0_1 (α:Type)(K:KT α)(Kn:SK α)(l a b c d e g h i j m o p q r s t w z A B:Int)(C:Rows)(D F:Int)(G H:Rows):u38_0_2 (fun σ=>runM Pg E38_0 sh38 c38_0_51 (thenK (fun σ=>tidyK td38_51 σ Kn) K) σ) l a b c d e g h i j m o p q r s t w z A B C D F G H=S38_0_1 α a b c d e g h i j (u38_0_2 Kn l a b c d e g h i j m o p q r s t w z A B C D F G H) (fun I=>u38_0_0 (K (.exit 0)) l a b c d e g h i j I m o p q r s t w z A B C D F G H):=r38_0_1g f20_0 f70_0 f51_0 J38_0_0 α K Kn l a b c d e g h i j m o p q r s t w z A B C D F G H
theorem t38_0_1 (α:Type)(K:KT α):∀ (n:Nat) (l a b c d e g h i j m o p q r s t w z A B:Int) (C:Rows) (D F:Int) (G H:Rows),R38_0_1 α a b c d e g h i j (fun I=>u38_0_0 (K (.exit 0)) l a b c d e g h i j I m o p q r s t w z A B C D F G H) n=u38_0_2 (loopT (runM Pg E38_0 sh38 c38_0_51) td38_51 K n) l a b c d e g h i j m o p q r s t w z A B C D F G H:=by
 intro n
 induction n with
 | zero=>intros;rfl
 | succ n ih=>intro l a b c d e g h i j m o p q r s t w z A B C D F G H;exact (congrArg (fun kn=>S38_0_1 α a b c d e g h i j kn (fun I=>u38_0_0 (K (.exit 0)) l a b c d e g h i j I m o p q r s t w z A B C D F G H)) (ih l a b c d e g h i j m o p q r s t w z A B C D F G H)).trans (r38_0_1 α K (loopT (runM Pg E38_0 sh38 c38_0_51) td38_51 K n) l a b c d e g h i j m o p q r s t w z A B C D F G H).symm
theorem m38_0_1:∀ (α:Type) (K:KT α),F38_0_1 L38_0_1 α K=p38_0_2.unc fun σ=>loopT (runM Pg E38_0 sh38 c38_0_51) td38_51 K fuel σ:=fun α K=>by funext a b c d e g h i j l m o p q r s t w z A B C D F G H;exact t38_0_1 α K fuel a b c d e g h i j l m o p q r s t w z A B C D F G H
abbrev Tf38_0:Type 1:=(α:Type)->Rows->Int->Int->Int->Int->Int->Int->Int->Rows->Int->Int->Int->Int->Int->Int->Int->(Int->Int->Int->Op α)->Op α
def f38_0g (j:TL38_0_1)(l:Tf20_0)(m:Tf51_0)(o:Tf70_0)(α:Type)(p:Rows)(q r s t w z A:Int)(i:Rows)(a b c d e g B:Int)(k1:Int->Int->Int->Op α):Op α:=
 cK (a == ((List.length i:Nat):Int))
 (k1 12 a b)
 (rowK i a [.int .i64]
 (fun h=>l α h 0 2
 (fun C=>cK (!C)
 (k1 11 (w64 (a+1)) b)
 (cK (h == 0)
 (o α p q r s t w z A c d e g
 (fun D=>cK (D != 2)
 (k1 20 (w64 (a+1)) (w64 (b+1)))
 (k1 0 (w64 (a+1)) (w64 (b+1)))))
 (cK (B == 5)
 (k1 8 (w64 (a+1)) b)
 (m α c d e g h
 (fun F G H I J=>cK (!J)
 (k1 24 (w64 (a+1)) b)
 (j α c F e G H d I g 0
 (fun L=>k1 0 (w64 (a+1)) b) ))))))))
def f38_0 (α:Type)(a:Rows)(b c d e g h i:Int)(j:Rows)(l m o p q r s:Int)(k1:Int->Int->Int->Op α):Op α:=f38_0g L38_0_1 f20_0 f51_0 f70_0 α a b c d e g h i j l m o p q r s k1
def pa38_0:PT (List DV):=pA [pV false [(dMr [(dOs 9),(dOs 5),(dI .i64),(dI .i64),(dI .i64),(dI .i64),(dI .i64),(dI .i64),(dI .i64),(dI .i64),(dI .i64),(dI .i64),(dI .i64),dL,(dI .i64),(dI .i64)] 0)],pV true [(dI .i64),(dI .i64),(dI .i64),(dI .i64)],vI]
def Fn38_0 (v:Tf38_0)(α:Type)(k:RT α):Rows->Rows->Int->Int->Int->Int->Int->Int->Int->Int->Int->Int->Int->Rows->I7 (Op α):=fun l a b c d e g m o p q h i j r s t w z A B=>v α a b c d e g h i j r s t w z A B (fun C D F=>ur38_0_0 k C l a b c d e g m o p q h i j D F)
def cm38_0g (a:TL38_0_1):MCode:=(MCode.put (.m [⟨p38_0_2,F38_0_1 a⟩]) [1,1,1,1,1,1,1,1,1,0,1,0] (MCode.put (.m [⟨p38_0_0,F38_0_0 J38_0_0⟩]) [1,1,1,1,1,1,1,1,1,0,1,0,0,1,1,0,0] (emb ac38)))
def cm38_0:MCode:=cm38_0g L38_0_1
theorem gm38_0:cm38_0.Good Pg E38_0 sh38:=(put_loop (td:=td38_51) (by kernel_rfl) (put_seq (by kernel_rfl) (emb_good ac38) ⟨m38_0_0,TT⟩) ⟨m38_0_1,TT⟩)
theorem em38_0:cm38_0.erase=ac38:=((put_erase _ _).trans ((put_erase _ _).trans (emb_erase _)))
theorem fm38_0g (a:Tf20_0)(b:Tf70_0)(c:Tf51_0)(d:TL38_0_1)(α:Type)(k:RT α):Fn38_0 (f38_0g d a c b) α k=pa38_0.unc fun ds=>fnM Pg (E38_0g a b c) sh38 (cm38_0g d) rs38 k ds:=by kernel_rfl
theorem fm38_0:∀ (α:Type) (k:RT α),Fn38_0 f38_0 α k=pa38_0.unc fun ds=>fnM Pg E38_0 sh38 cm38_0 rs38 k ds:=fm38_0g f20_0 f70_0 f51_0 L38_0_1
theorem is38:FnIs Pg 38 nt38 tr38 tl38 ac38 rs38:=codeF_is Tryz.func38 (by kernel_rfl)
theorem io38_0:InstOk Pg 38 nt38 ⟨pa38_0,Fn38_0 f38_0⟩:=inst_ok eo38_0 followsTry is38 ⟨⟨sh38,cm38_0,em38_0,gm38_0,fm38_0⟩⟩
def p38_1_0:PT St:=pSv [(0,500000000,0)] [sl 0 (aV false [(cPtr 500000000 0)]),sI 2,sl 69 (aV true (xs 8)),sI 70,sY 71 dB] [eBox 500000000 [(cD dL),(cD dL),xI,xI,xI,xI,xI,xI,xI,xI,xI,xI,xI,(cD dL),xI,xI]]
def u38_1_0 {β:Type}(g:St->β):Int->Int->Int->Int->Int->Int->Int->Int->Int->Int->Bool->Rows->Rows->Int->Int->Int->Int->Int->Int->Int->Int->Int->Int->Int->Rows->Int->Int->β:=p38_1_0.unc g
def p38_1_1:PT St:=pSv [(0,500000000,0)] [sl 0 (aV false [(cPtr 500000000 0)]),sI 2,sP 11,sl 69 (aV true (xs 8)),sI 70] [eBox 500000000 [(cD dL),(cD dL),xI,xI,xI,xI,xI,xI,xI,xI,xI,xI,xI,(cD dL),xI,xI],eBox 11 (xs 4)]
def u38_1_1 {β:Type}(g:St->β):Int->Int->Int->Int->Int->Int->Int->Int->Int->Int->Rows->Rows->Int->Int->Int->Int->Int->Int->Int->Int->Int->Int->Int->Rows->I6 β:=p38_1_1.unc g
def p38_1_2:PT St:=pSv [(0,500000000,0)] [sl 0 (aV false [(cPtr 500000000 0)]),sI 2,sl 69 (aV true (xs 8)),sI 70] [eBox 500000000 [(cD dL),(cD dL),xI,xI,xI,xI,xI,xI,xI,xI,xI,xI,xI,(cD dL),xI,xI]]
def u38_1_2 {β:Type}(g:St->β):Int->Int->Int->Int->Int->Int->Int->Int->Int->Int->Rows->Rows->Int->Int->Int->Int->Int->Int->Int->Int->Int->Int->Int->Rows->Int->Int->β:=p38_1_2.unc g
def pr38_1_0:PT (List RV):=pRs [wI,pR true [rD dL,rD dL,rD (dI .i64),rD (dI .i64),rD (dI .i64),rD (dI .i64),rD (dI .i64),rD (dI .i64),rD (dI .i64),rD (dI .i64),rD (dI .i64),rD (dI .i64),rD (dI .i64),rD dL,rD (dI .i64),rD (dI .i64)]]
def ur38_1_0 {β:Type}(g:List RV->β):Int->Rows->Rows->Int->Int->Int->Int->Int->Int->Int->Int->Int->Int->Int->Rows->Int->Int->β:=pr38_1_0.unc g
def E38_1g (a:Tf20_0)(b:Tf70_0)(c:Tf51_0):EnvK:=EnvK.of [⟨20,nt20,[⟨pa20_0,Fn20_0 a⟩]⟩,⟨70,nt70,[⟨pa70_0,Fn70_0 b⟩]⟩,⟨51,nt51,[⟨pa51_0,Fn51_0 c⟩]⟩] noSeq
def E38_1:EnvK:=E38_1g f20_0 f70_0 f51_0
theorem eo38_1:E38_1.Ok Pg:=EnvK.of_ok noSeq_ok ⟨⟨io20_0,TT⟩,⟨io70_0,TT⟩,⟨io51_0,TT⟩,TT⟩
def c38_1_58g:MCode:=MCode.sub [1,1,1,1,1,1,1,1,1,0,1,0,0,1,1,0,0,0] (emb ac38)
def c38_1_58:MCode:=c38_1_58g
abbrev TJ38_1_0:Type 1:=(α:Type)->Int->Int->Int->Int->Int->Int->Int->Int->Int->(I4 (Op α))->Op α
def J38_1_0g (α:Type)(b c d e g h i j a:Int)(k1:I4 (Op α)):Op α:=
 cK (a == 1)
 (k1 g h i j)
 (cK (a == 0)
 (k1 b c d e)
 (none))
def J38_1_0 (α:Type)(a b c d e g h i j:Int)(k1:I4 (Op α)):Op α:=J38_1_0g α a b c d e g h i j k1
def F38_1_0 (v:TJ38_1_0)(α:Type)(K:KT α):Int->Int->Int->Int->Int->Int->Int->Int->Int->Int->Bool->Rows->Rows->Int->Int->Int->Int->Int->Int->Int->Int->Int->Int->Int->Rows->Int->Int->Op α:=fun l a b c d e g h i j N m o p q r s t w z A B C D F G H=>v α a b c d e g h i j (fun I J L M=>u38_1_1 (K .normal) l a b c d e g h i j m o p q r s t w z A B C D F G H I J L M)
theorem m38_1_0g (a:Tf20_0)(b:Tf70_0)(c:Tf51_0)(α:Type)(K:KT α):F38_1_0 (J38_1_0g ) α K=p38_1_0.unc fun σ=>runM Pg (E38_1g a b c) sh38 (c38_1_58g ) K σ:=by kernel_rfl
theorem m38_1_0:∀ (α:Type) (K:KT α),F38_1_0 J38_1_0 α K=p38_1_0.unc fun σ=>runM Pg E38_1 sh38 c38_1_58 K σ:=m38_1_0g f20_0 f70_0 f51_0
def c38_1_51g (a:TJ38_1_0):MCode:=MCode.sub [1,1,1,1,1,1,1,1,1,0,1,0,0] (MCode.put (.m [⟨p38_1_0,F38_1_0 a⟩]) [1,1,1,1,1,1,1,1,1,0,1,0,0,1,1,0,0] (emb ac38))
def c38_1_51:MCode:=c38_1_51g J38_1_0
def S38_1_1g (b:TJ38_1_0)(α:Type)(c d e g h i j l a:Int)(kn:Op α)(k1:Bool->Op α):Op α:=
 cK (decide (a < 2))
 (b α c d e g h i j l a
 (fun m o p q=>none))
 (k1 (decide (a < 2)))
def S38_1_1 (α:Type)(a b c d e g h i j:Int)(kn:Op α)(k1:Bool->Op α):Op α:=S38_1_1g J38_1_0 α a b c d e g h i j kn k1
def R38_1_1 (α:Type)(a b c d e g h i j:Int)(k1:Bool->Op α):Nat->Op α
 | 0=>none
 | n+1=>S38_1_1 α a b c d e g h i j (R38_1_1 α a b c d e g h i j k1 n) k1
def L38_1_1 (α:Type)(a b c d e g h i j:Int)(k1:Bool->Op α):Op α:=R38_1_1 α a b c d e g h i j k1 fuel
abbrev TL38_1_1:Type 1:=(α:Type)->Int->Int->Int->Int->Int->Int->Int->Int->Int->(Bool->Op α)->Op α
def F38_1_1 (v:TL38_1_1)(α:Type)(K:KT α):Int->Int->Int->Int->Int->Int->Int->Int->Int->Int->Rows->Rows->Int->Int->Int->Int->Int->Int->Int->Int->Int->Int->Int->Rows->Int->Int->Op α:=fun l a b c d e g h i j m o p q r s t w z A B C D F G H=>v α a b c d e g h i j (fun I=>u38_1_0 (K (.exit 0)) l a b c d e g h i j I m o p q r s t w z A B C D F G H)
theorem r38_1_1g (J:Tf20_0)(L:Tf70_0)(M:Tf51_0)(I:TJ38_1_0)(α:Type)(K:KT α)(Kn:SK α)(l a b c d e g h i j:Int)(m o:Rows)(p q r s t w z A B C D:Int)(F:Rows)(G H:Int):u38_1_2 (fun σ=>runM Pg (E38_1g J L M) sh38 (c38_1_51g I) (thenK (fun σ=>tidyK td38_51 σ Kn) K) σ) l a b c d e g h i j m o p q r s t w z A B C D F G H=S38_1_1g I α a b c d e g h i j (u38_1_2 Kn l a b c d e g h i j m o p q r s t w z A B C D F G H) (fun N=>u38_1_0 (K (.exit 0)) l a b c d e g h i j N m o p q r s t w z A B C D F G H):=by kernel_rfl
theorem r38_1_1 (α:Type)(K:KT α)(Kn:SK α)(l a b c d e g h i j:Int)(m o:Rows)(p q r s t w z A B C D:Int)(F:Rows)(G H:Int):u38_1_2 (fun σ=>runM Pg E38_1 sh38 c38_1_51 (thenK (fun σ=>tidyK td38_51 σ Kn) K) σ) l a b c d e g h i j m o p q r s t w z A B C D F G H=S38_1_1 α a b c d e g h i j (u38_1_2 Kn l a b c d e g h i j m o p q r s t w z A B C D F G H) (fun I=>u38_1_0 (K (.exit 0)) l a b c d e g h i j I m o p q r s t w z A B C D F G H):=r38_1_1g f20_0 f70_0 f51_0 J38_1_0 α K Kn l a b c d e g h i j m o p q r s t w z A B C D F G H
theorem t38_1_1 (α:Type)(K:KT α):∀ (n:Nat) (l a b c d e g h i j:Int) (m o:Rows) (p q r s t w z A B C D:Int) (F:Rows) (G H:Int),R38_1_1 α a b c d e g h i j (fun I=>u38_1_0 (K (.exit 0)) l a b c d e g h i j I m o p q r s t w z A B C D F G H) n=u38_1_2 (loopT (runM Pg E38_1 sh38 c38_1_51) td38_51 K n) l a b c d e g h i j m o p q r s t w z A B C D F G H:=by
 intro n
 induction n with
 | zero=>intros;rfl
 | succ n ih=>intro l a b c d e g h i j m o p q r s t w z A B C D F G H;exact (congrArg (fun kn=>S38_1_1 α a b c d e g h i j kn (fun I=>u38_1_0 (K (.exit 0)) l a b c d e g h i j I m o p q r s t w z A B C D F G H)) (ih l a b c d e g h i j m o p q r s t w z A B C D F G H)).trans (r38_1_1 α K (loopT (runM Pg E38_1 sh38 c38_1_51) td38_51 K n) l a b c d e g h i j m o p q r s t w z A B C D F G H).symm
theorem m38_1_1:∀ (α:Type) (K:KT α),F38_1_1 L38_1_1 α K=p38_1_2.unc fun σ=>loopT (runM Pg E38_1 sh38 c38_1_51) td38_51 K fuel σ:=fun α K=>by funext a b c d e g h i j l m o p q r s t w z A B C D F G H;exact t38_1_1 α K fuel a b c d e g h i j l m o p q r s t w z A B C D F G H
abbrev Tf38_1:Type 1:=(α:Type)->Rows->Int->Int->Int->Int->Int->Int->Int->Rows->Int->Int->Int->Int->Int->Int->Int->(Int->Int->Int->Op α)->Op α
def f38_1g (j:TL38_1_1)(l:Tf20_0)(m:Tf51_0)(o:Tf70_0)(α:Type)(p:Rows)(q r s t w z A:Int)(i:Rows)(a b c d e g B:Int)(k1:Int->Int->Int->Op α):Op α:=
 cK (a == ((List.length i:Nat):Int))
 (k1 12 a b)
 (rowK i a [.int .i64]
 (fun h=>l α h 0 2
 (fun C=>cK (!C)
 (k1 11 (w64 (a+1)) b)
 (cK (h == 0)
 (o α p q r s t w z A c d e g
 (fun D=>cK (D != 2)
 (k1 20 (w64 (a+1)) (w64 (b+1)))
 (k1 0 (w64 (a+1)) (w64 (b+1)))))
 (cK (B == 5)
 (k1 8 (w64 (a+1)) b)
 (m α c d e g h
 (fun F G H I J=>cK (!J)
 (k1 24 (w64 (a+1)) b)
 (j α c F e G H d I g 0
 (fun L=>k1 0 (w64 (a+1)) b) ))))))))
def f38_1 (α:Type)(a:Rows)(b c d e g h i:Int)(j:Rows)(l m o p q r s:Int)(k1:Int->Int->Int->Op α):Op α:=f38_1g L38_1_1 f20_0 f51_0 f70_0 α a b c d e g h i j l m o p q r s k1
def pa38_1:PT (List DV):=pA [pV false [(dMr [dL,dL,(dI .i64),(dI .i64),(dI .i64),(dI .i64),(dI .i64),(dI .i64),(dI .i64),(dI .i64),(dI .i64),(dI .i64),(dI .i64),dL,(dI .i64),(dI .i64)] 0)],pV true [(dI .i64),(dI .i64),(dI .i64),(dI .i64)],vI]
def Fn38_1 (v:Tf38_1)(α:Type)(k:RT α):Rows->Rows->Int->Int->Int->Int->Int->Int->Int->Int->Int->Int->Int->Rows->I7 (Op α):=fun l a b c d e g m o p q h i j r s t w z A B=>v α a b c d e g h i j r s t w z A B (fun C D F=>ur38_1_0 k C l a b c d e g m o p q h i j D F)
def cm38_1g (a:TL38_1_1):MCode:=(MCode.put (.m [⟨p38_1_2,F38_1_1 a⟩]) [1,1,1,1,1,1,1,1,1,0,1,0] (MCode.put (.m [⟨p38_1_0,F38_1_0 J38_1_0⟩]) [1,1,1,1,1,1,1,1,1,0,1,0,0,1,1,0,0] (emb ac38)))
def cm38_1:MCode:=cm38_1g L38_1_1
theorem gm38_1:cm38_1.Good Pg E38_1 sh38:=(put_loop (td:=td38_51) (by kernel_rfl) (put_seq (by kernel_rfl) (emb_good ac38) ⟨m38_1_0,TT⟩) ⟨m38_1_1,TT⟩)
theorem em38_1:cm38_1.erase=ac38:=((put_erase _ _).trans ((put_erase _ _).trans (emb_erase _)))
theorem fm38_1g (a:Tf20_0)(b:Tf70_0)(c:Tf51_0)(d:TL38_1_1)(α:Type)(k:RT α):Fn38_1 (f38_1g d a c b) α k=pa38_1.unc fun ds=>fnM Pg (E38_1g a b c) sh38 (cm38_1g d) rs38 k ds:=by kernel_rfl
theorem fm38_1:∀ (α:Type) (k:RT α),Fn38_1 f38_1 α k=pa38_1.unc fun ds=>fnM Pg E38_1 sh38 cm38_1 rs38 k ds:=fm38_1g f20_0 f70_0 f51_0 L38_1_1
theorem io38_1:InstOk Pg 38 nt38 ⟨pa38_1,Fn38_1 f38_1⟩:=inst_ok eo38_1 followsTry is38 ⟨⟨sh38,cm38_1,em38_1,gm38_1,fm38_1⟩⟩
abbrev nt6:Nat:=62
def sh6:SG:=[(15,[.sl,.sl,.int .i64,.int .i64]),(21,iT),(24,iT),(31,iS 9),(36,iT),(39,iT),(40,[.sl]),(41,iS 2),(42,iS 2),(43,[.sl]),(47,iS 2),(48,iS 2),(50,iT),(52,iT),(55,iT),(57,iT),(61,iS 2)]
def tr6:TG:=[tT 0 [1,2,3,6],tT 1 [2,6,8,9],tT 2 [2,6,8,9,20],tT 3 [6,7],tT 4 [2,6,8,9,25],tT 5 [6,7],tT 6 [2,6,8,9,10],tT 7 [6,9,10],tT 8 [6,9,10,37],tT 9 [6,7],tT 10 [6,10,11],tT 11 [6,11,43,44,45],tT 12 [6,11,43,44,45,46],tT 13 [6,11,13,43,44,45],tT 14 [6,11,43,44,45],tT 15 [6,11,43,44,45],tT 16 [6,7]]
def tl6:TG:=[(12,⟨[6,11,43,44,45],true,[⟨false,43,0,20043,2⟩,⟨true,3,0,30300,9⟩,⟨true,3,1,30301,5⟩,⟨true,8,0,30800,9⟩,⟨true,8,1,30801,5⟩,⟨true,10,0,31000,2⟩],[]⟩)]
def ac6:ACode:=codeF Pg Tryz.f6 tr6 tl6
def rs6:List AResV:=resF Pg Tryz.f6
def td6_33:OT:=tdC (MCode.sub [1,1,1,1,1,1,1,0,1,0] (emb ac6))
def p6_0_0:PT St:=pS [sI 1,sI 2,sP 3,sP 6] [eBox 3 [(cD dL),(cD dL),xI,xI],eBox 6 [xI,xI]]
def u6_0_0 {β:Type}(g:St->β):Int->Int->Rows->Rows->I4 β:=p6_0_0.unc g
def p6_0_1:PT St:=pS [sI 2,sP 6,sP 8,sP 9] [eBox 6 [xI,xI],eBox 8 [(cRef 17),(cRef 10017),xI,xI,xI,xI,xI,xI,xI,xI,xI,xI,xI],eOwn 17 9,eOwn 10017 5,eBox 9 [xI]]
def u6_0_1 {β:Type}(g:St->β):Int->Int->Int->Int->Int->Int->Int->Int->Int->Int->Int->Int->Int->Int->Rows->Rows->Int->β:=p6_0_1.unc g
def p6_0_2:PT St:=pS [sI 2,sP 6,sP 8,sP 9] [eBox 6 [xI,xI],eBox 8 [(cD dL),(cD dL),xI,xI,xI,xI,xI,xI,xI,xI,xI,xI,xI],eBox 9 [xI]]
def u6_0_2 {β:Type}(g:St->β):Int->Int->Int->Rows->Rows->I12 β:=p6_0_2.unc g
def p6_0_3:PT St:=pS [sP 6,sP 11,sl 43 (aV false [(cRef 20043)]),sI 44,sI 45] [eBox 6 [xI,xI],eBox 11 [xI,xI],eOwn 20043 2]
def u6_0_3 {β:Type}(g:St->β):Int->Int->Int->Int->Int->Int->Rows->β:=p6_0_3.unc g
def p6_0_4:PT St:=pS [sP 6,sP 11,sl 43 (aV false [(cRef 20043)]),sI 44,sI 45,sY 46 dB] [eBox 6 [xI,xI],eBox 11 [xI,xI],eOwn 20043 2]
def u6_0_4 {β:Type}(g:St->β):Int->Int->Bool->Int->Int->Int->Int->Rows->β:=p6_0_4.unc g
def pr6_0_0:PT (List RV):=pRs [pR true [rD (dI .i64),rD (dI .i64)],wI]
def ur6_0_0 {β:Type}(g:List RV->β):Int->Int->Int->β:=pr6_0_0.unc g
def E6_0g (a:Tf19_0)(b:Tf20_0)(c:Tf22_0)(d:Tf23_0):EnvK:=EnvK.ofP (EnvK.ofIO [⟨19,nt19,[⟨pa19_0,Fn19_0 a⟩]⟩,⟨20,nt20,[⟨pa20_0,Fn20_0 b⟩]⟩,⟨22,nt22,[⟨pa22_0,Fn22_0 c⟩]⟩,⟨23,nt23,[⟨pa23_0,Fn23_0 d⟩]⟩] noSeq [(23,[2,3])]) [(21,[1000000,23,0])]
def E6_0:EnvK:=E6_0g f19_0 f20_0 f22_0 f23_0
theorem eo6_0:E6_0.Ok Pg:=EnvK.ofP_ok (EnvK.ofIO_ok noSeq_ok ⟨⟨io19_0,TT⟩,⟨io20_0,TT⟩,⟨io22_0,TT⟩,⟨io23_0,TT⟩,TT⟩) ⟨ptr21,TT⟩
def c6_0_33g:MCode:=MCode.sub [1,1,1,1,1,1,1,0,1,0,0] (emb ac6)
def c6_0_33:MCode:=c6_0_33g
def S6_0_1g (α:Type)(d:Int)(e:Rows)(a b c:Int)(kn:Int->Int->Int->Op α)(k1:Int->Bool->Int->Int->Op α):Op α:=
 cK (decide (a < d))
 (ixK e a 2
 (ldK e (Int.toNat a) 0 [.int .i64,.int .i64]
 (fun g h=>kn (w64 (a+1)) (if g < b then g else b) (if h > c then h else c))))
 (k1 a (decide (a < d)) b c)
def S6_0_1 (α:Type)(a:Int)(b:Rows)(c d e:Int)(kn:Int->Int->Int->Op α)(k1:Int->Bool->Int->Int->Op α):Op α:=S6_0_1g α a b c d e kn k1
def R6_0_1 (α:Type)(a:Int)(b:Rows)(k1:Int->Bool->Int->Int->Op α):Nat->Int->Int->Int->Op α
 | 0,_,_,_=>none
 | n+1,c,d,e=>S6_0_1 α a b c d e (R6_0_1 α a b k1 n) k1
def L6_0_1 (α:Type)(a:Int)(b:Rows)(k1:Int->Bool->Int->Int->Op α)(c d e:Int):Op α:=R6_0_1 α a b k1 fuel c d e
abbrev TL6_0_1:Type 1:=(α:Type)->Int->Rows->(Int->Bool->Int->Int->Op α)->Int->Int->Int->Op α
def F6_0_1 (v:TL6_0_1)(α:Type)(K:KT α):Int->Int->Int->Int->Int->Int->Rows->Op α:=fun a c d e g h b=>v α a b (fun i j l m=>u6_0_4 (K (.exit 1)) a i j d e l m b) c g h
theorem r6_0_1g (i:Tf19_0)(j:Tf20_0)(l:Tf22_0)(m:Tf23_0)(α:Type)(K:KT α)(Kn:SK α)(a b g h c d:Int)(e:Rows):u6_0_3 (fun σ=>runM Pg (E6_0g i j l m) sh6 (c6_0_33g ) (thenK (fun σ=>tidyK td6_33 σ Kn) K) σ) a b g h c d e=S6_0_1g α a e b c d (fun b c d=>u6_0_3 Kn a b g h c d e) (fun o p q r=>u6_0_4 (K (.exit 1)) a o p g h q r e):=by kernel_rfl
theorem r6_0_1 (α:Type)(K:KT α)(Kn:SK α)(a b g h c d:Int)(e:Rows):u6_0_3 (fun σ=>runM Pg E6_0 sh6 c6_0_33 (thenK (fun σ=>tidyK td6_33 σ Kn) K) σ) a b g h c d e=S6_0_1 α a e b c d (fun b c d=>u6_0_3 Kn a b g h c d e) (fun i j l m=>u6_0_4 (K (.exit 1)) a i j g h l m e):=r6_0_1g f19_0 f20_0 f22_0 f23_0 α K Kn a b g h c d e
theorem t6_0_1 (α:Type)(K:KT α):∀ (n:Nat) (a c g h d e:Int) (b:Rows),R6_0_1 α a b (fun i j l m=>u6_0_4 (K (.exit 1)) a i j g h l m b) n c d e=u6_0_3 (loopT (runM Pg E6_0 sh6 c6_0_33) td6_33 K n) a c g h d e b:=by
 intro n
 induction n with
 | zero=>intros;rfl
 | succ n ih=>intro a c g h d e b;exact (congrArg (fun kn=>S6_0_1 α a b c d e kn (fun i j l m=>u6_0_4 (K (.exit 1)) a i j g h l m b)) (funext fun c=>funext fun d=>funext fun e=>ih a c g h d e b)).trans (r6_0_1 α K (loopT (runM Pg E6_0 sh6 c6_0_33) td6_33 K n) a c g h d e b).symm
theorem m6_0_1:∀ (α:Type) (K:KT α),F6_0_1 L6_0_1 α K=p6_0_3.unc fun σ=>loopT (runM Pg E6_0 sh6 c6_0_33) td6_33 K fuel σ:=fun α K=>by funext a b c d e g h;exact t6_0_1 α K fuel a b c d e g h
def c6_0_3g:MCode:=MCode.sub [1,0] (emb ac6)
def c6_0_3:MCode:=c6_0_3g
abbrev TJ6_0_0:Type 1:=(α:Type)->Int->Rows->Rows->Int->Int->(Int->Op α)->(I9 (Op α))->Op α
def J6_0_0g (a:Tf19_0)(α:Type)(b:Int)(c d:Rows)(e g:Int)(k1:Int->Op α)(k2:I9 (Op α)):Op α:=
 a α c d e g b
 (fun h=>k1 h)
 (fun i j l m o p q r s=>k2 i j l m o p q r s)
def J6_0_0 (α:Type)(a:Int)(b c:Rows)(d e:Int)(k1:Int->Op α)(k2:I9 (Op α)):Op α:=J6_0_0g f19_0 α a b c d e k1 k2
def F6_0_0 (v:TJ6_0_0)(α:Type)(K:KT α):Int->Int->Rows->Rows->I4 (Op α):=fun j b c d e g h i=>v α j c d e g (fun a=>u6_0_1 (K .normal) b h i 0 0 0 0 0 0 0 0 0 0 0 ([]:Rows) ([]:Rows) a) (fun a l m o p q r s t=>u6_0_2 (K .normal) b h i c d e g a l m o p q r s t 0)
theorem m6_0_0g (a:Tf19_0)(b:Tf20_0)(c:Tf22_0)(d:Tf23_0)(α:Type)(K:KT α):F6_0_0 (J6_0_0g a) α K=p6_0_0.unc fun σ=>runM Pg (E6_0g a b c d) sh6 (c6_0_3g ) K σ:=by kernel_rfl
theorem m6_0_0:∀ (α:Type) (K:KT α),F6_0_0 J6_0_0 α K=p6_0_0.unc fun σ=>runM Pg E6_0 sh6 c6_0_3 K σ:=m6_0_0g f19_0 f20_0 f22_0 f23_0
abbrev Tf6_0:Type 1:=(α:Type)->Rows->Rows->Int->Int->(Int->Int->Int->Op α)->Op α
def f6_0g (p:TJ6_0_0)(c:TL6_0_1)(d:Tf20_0)(e:Tf22_0)(g:Tf23_0)(α:Type)(q h:Rows)(i j:Int)(k1:Int->Int->Int->Op α):Op α:=
 p α 0 q h i j
 (fun l=>cK (l != 0)
 (k1 0 0 l)
 (d α 0 0 5
 (fun r=>cK (!r)
 (k1 0 0 2)
 (e α
 (g α 0 0 0 0 ([]:Rows) 0 0 0 0 0
 (fun O m a=>flatK [a]
 (cK (m != 0)
 (k1 0 0 m)
 (ixK a 0 2
 (ldK a 0 0 [.int .i64,.int .i64]
 (fun s t=>c α ((List.length a:Nat):Int) a
 (fun P Q w z=>k1 w z 0) 0 s t))))))))))
 (fun A B C D F G H R T=>d α 0 0 5
 (fun I=>cK (!I)
 (k1 0 0 2)
 (e α
 (g α G H D F h i j A B C
 (fun U o b=>flatK [b]
 (cK (o != 0)
 (k1 0 0 o)
 (ixK b 0 2
 (ldK b 0 0 [.int .i64,.int .i64]
 (fun J L=>c α ((List.length b:Nat):Int) b
 (fun V W M N=>k1 M N 0) 0 J L)))))))))
def f6_0 (α:Type)(a b:Rows)(c d:Int)(k1:Int->Int->Int->Op α):Op α:=f6_0g J6_0_0 L6_0_1 f20_0 f22_0 f23_0 α a b c d k1
def pa6_0:PT (List DV):=pA [pV true [dL,dL,(dI .i64),(dI .i64)],pV false [(dIc .i64 0)],pV false [(dIc .i64 0)]]
def Fn6_0 (v:Tf6_0)(α:Type)(k:RT α):Rows->Rows->Int->Int->Op α:=fun a b c d=>v α a b c d (fun e g h=>ur6_0_0 k e g h)
def cm6_0g (a:TJ6_0_0)(b:TL6_0_1):MCode:=(MCode.put (.m [⟨p6_0_0,F6_0_0 a⟩]) [1] (MCode.put (.m [⟨p6_0_3,F6_0_1 b⟩]) [1,1,1,1,1,1,1,0,1,0] (emb ac6)))
def cm6_0:MCode:=cm6_0g J6_0_0 L6_0_1
theorem gm6_0:cm6_0.Good Pg E6_0 sh6:=(put_seq (by kernel_rfl) (put_loop (td:=td6_33) (by kernel_rfl) (emb_good ac6) ⟨m6_0_1,TT⟩) ⟨m6_0_0,TT⟩)
theorem em6_0:cm6_0.erase=ac6:=((put_erase _ _).trans ((put_erase _ _).trans (emb_erase _)))
theorem fm6_0g (g:Tf19_0)(a:Tf20_0)(b:Tf22_0)(c:Tf23_0)(d:TJ6_0_0)(e:TL6_0_1)(α:Type)(k:RT α):Fn6_0 (f6_0g d e a b c) α k=pa6_0.unc fun ds=>fnM Pg (E6_0g g a b c) sh6 (cm6_0g d e) rs6 k ds:=by kernel_rfl
theorem fm6_0:∀ (α:Type) (k:RT α),Fn6_0 f6_0 α k=pa6_0.unc fun ds=>fnM Pg E6_0 sh6 cm6_0 rs6 k ds:=fm6_0g f19_0 f20_0 f22_0 f23_0 J6_0_0 L6_0_1
theorem is6:FnIs Pg 6 nt6 tr6 tl6 ac6 rs6:=codeF_is Tryz.func6 (by kernel_rfl)
theorem io6_0:InstOk Pg 6 nt6 ⟨pa6_0,Fn6_0 f6_0⟩:=inst_ok eo6_0 followsTry is6 ⟨⟨sh6,cm6_0,em6_0,gm6_0,fm6_0⟩⟩
abbrev nt14:Nat:=60
def sh14:SG:=[(13,[.sl,.sl,.int .i64,.int .i64]),(26,[.sl,.sl,.int .i64,.int .i64,.int .i64,.int .i64,.int .i64,.int .i64,.int .i64,.int .i64,.int .i64,.int .i64,.int .i64]),(32,iS 9),(41,iT),(52,iT),(59,iT)]
def tr14:TG:=[tT 0 [1,2,3],tT 1 [2,8,9],tT 2 [2,8,9,18],tT 3 [6,7],tT 4 [2,8,22],tT 5 [6,7],tT 6 [2,8,10],tT 7 [2,10,11],tT 8 [2,10,11,35],tT 9 [6,7],tT 10 [2,10,11,44],tT 11 [6,7],tT 12 [10,48],tT 13 [6,7],tT 14 [6,7]]
def tl14:TG:=[]
def ac14:ACode:=codeF Pg Tryz.f14 tr14 tl14
def rs14:List AResV:=resF Pg Tryz.f14
def p14_0_0:PT St:=pS [sI 1,sY 2 dL,sP 3] [eBox 3 [(cD dL),(cD dL),xI,xI]]
def u14_0_0 {β:Type}(g:St->β):Int->Rows->Rows->Rows->Int->Int->β:=p14_0_0.unc g
def p14_0_1:PT St:=pS [sY 2 dL,sP 8,sI 9] [eBox 8 [(cRef 15),(cRef 10015),xI,xI,xI,xI,xI,xI,xI,xI,xI,xI,xI],eOwn 15 9,eOwn 10015 5]
def u14_0_1 {β:Type}(g:St->β):Rows->Int->Int->Int->Int->Int->Int->Int->Int->Int->Int->Int->Int->Rows->Rows->β:=p14_0_1.unc g
def p14_0_2:PT St:=pS [sY 2 dL,sP 8,sI 9] [eBox 8 [(cD dL),(cD dL),xI,xI,xI,xI,xI,xI,xI,xI,xI,xI,xI]]
def u14_0_2 {β:Type}(g:St->β):Rows->Int->Rows->Rows->I11 β:=p14_0_2.unc g
def pr14_0_0:PT (List RV):=pRs [wI,wI]
def ur14_0_0 {β:Type}(g:List RV->β):Int->Int->β:=pr14_0_0.unc g
def E14_0g (a:Tf19_0)(b:Tf22_0)(c:Tf38_0)(d:Tf38_1):EnvK:=EnvK.ofIO [⟨19,nt19,[⟨pa19_0,Fn19_0 a⟩]⟩,⟨22,nt22,[⟨pa22_0,Fn22_0 b⟩]⟩,⟨38,nt38,[⟨pa38_0,Fn38_0 c⟩,⟨pa38_1,Fn38_1 d⟩]⟩] noSeq [(38,[0])]
def E14_0:EnvK:=E14_0g f19_0 f22_0 f38_0 f38_1
theorem eo14_0:E14_0.Ok Pg:=EnvK.ofIO_ok noSeq_ok ⟨⟨io19_0,TT⟩,⟨io22_0,TT⟩,⟨io38_0,io38_1,TT⟩,TT⟩
def c14_0_3g:MCode:=MCode.sub [1,0] (emb ac14)
def c14_0_3:MCode:=c14_0_3g
abbrev TJ14_0_0:Type 1:=(α:Type)->Int->Rows->Rows->Int->Int->(Int->Op α)->(I9 (Op α))->Op α
def J14_0_0g (a:Tf19_0)(α:Type)(b:Int)(c d:Rows)(e g:Int)(k1:Int->Op α)(k2:I9 (Op α)):Op α:=
 a α c d e g b
 (fun h=>k1 h)
 (fun i j l m o p q r s=>k2 i j l m o p q r s)
def J14_0_0 (α:Type)(a:Int)(b c:Rows)(d e:Int)(k1:Int->Op α)(k2:I9 (Op α)):Op α:=J14_0_0g f19_0 α a b c d e k1 k2
def F14_0_0 (v:TJ14_0_0)(α:Type)(K:KT α):Int->Rows->Rows->Rows->Int->Int->Op α:=fun h b c d e g=>v α h c d e g (fun a=>u14_0_1 (K .normal) b a 0 0 0 0 0 0 0 0 0 0 0 ([]:Rows) ([]:Rows)) (fun a i j l m o p q r=>u14_0_2 (K .normal) b 0 c d e g a i j l m o p q r)
theorem m14_0_0g (a:Tf19_0)(b:Tf22_0)(c:Tf38_0)(d:Tf38_1)(α:Type)(K:KT α):F14_0_0 (J14_0_0g a) α K=p14_0_0.unc fun σ=>runM Pg (E14_0g a b c d) sh14 (c14_0_3g ) K σ:=by kernel_rfl
theorem m14_0_0:∀ (α:Type) (K:KT α),F14_0_0 J14_0_0 α K=p14_0_0.unc fun σ=>runM Pg E14_0 sh14 c14_0_3 K σ:=m14_0_0g f19_0 f22_0 f38_0 f38_1
abbrev Tf14_0:Type 1:=(α:Type)->Rows->Rows->Int->Int->Int->Rows->(Int->Int->Op α)->Op α
def f14_0g (m:TJ14_0_0)(d:Tf22_0)(o:Tf38_0)(p:Tf38_1)(α:Type)(q e:Rows)(g h r:Int)(a:Rows)(k1:Int->Int->Op α):Op α:=
 m α r q e g h
 (fun i=>cK (i != 0)
 (k1 0 i)
 (cK (decide (63 < ((List.length a:Nat):Int)))
 (k1 0 8)
 (d α
 (o α ([]:Rows) 0 0 0 0 0 0 0 a 0 0 0 0 0 0 0
 (fun b j s=>cK (b == 20)
 (k1 (w64 (j - 1)) b)
 (cK (b != 0)
 (k1 0 b)
 (cK (decide (j < ((List.length a:Nat):Int)))
 (k1 0 12)
 (k1 s 0))))))))
 (fun t w z A B C D F G=>cK (decide (63 < ((List.length a:Nat):Int)))
 (k1 0 8)
 (d α
 (p α e g h t w z F G a 0 0 C D A B 0
 (fun c l H=>cK (c == 20)
 (k1 (w64 (l - 1)) c)
 (cK (c != 0)
 (k1 0 c)
 (cK (decide (l < ((List.length a:Nat):Int)))
 (k1 0 12)
 (k1 H 0)))))))
def f14_0 (α:Type)(a b:Rows)(c d e:Int)(g:Rows)(k1:Int->Int->Op α):Op α:=f14_0g J14_0_0 f22_0 f38_0 f38_1 α a b c d e g k1
def pa14_0:PT (List DV):=pA [pV true [dL,dL,(dI .i64),(dI .i64)],vI,pV false [dL]]
def Fn14_0 (v:Tf14_0)(α:Type)(k:RT α):Rows->Rows->Int->Int->Int->Rows->Op α:=fun a b c d e g=>v α a b c d e g (fun h i=>ur14_0_0 k h i)
def cm14_0g (a:TJ14_0_0):MCode:=(MCode.put (.m [⟨p14_0_0,F14_0_0 a⟩]) [1] (emb ac14))
def cm14_0:MCode:=cm14_0g J14_0_0
theorem gm14_0:cm14_0.Good Pg E14_0 sh14:=(put_seq (by kernel_rfl) (emb_good ac14) ⟨m14_0_0,TT⟩)
theorem em14_0:cm14_0.erase=ac14:=((put_erase _ _).trans (emb_erase _))
theorem fm14_0g (e:Tf19_0)(a:Tf22_0)(b:Tf38_0)(c:Tf38_1)(d:TJ14_0_0)(α:Type)(k:RT α):Fn14_0 (f14_0g d a b c) α k=pa14_0.unc fun ds=>fnM Pg (E14_0g e a b c) sh14 (cm14_0g d) rs14 k ds:=by kernel_rfl
theorem fm14_0:∀ (α:Type) (k:RT α),Fn14_0 f14_0 α k=pa14_0.unc fun ds=>fnM Pg E14_0 sh14 cm14_0 rs14 k ds:=fm14_0g f19_0 f22_0 f38_0 f38_1 J14_0_0
theorem is14:FnIs Pg 14 nt14 tr14 tl14 ac14 rs14:=codeF_is Tryz.func14 (by kernel_rfl)
theorem io14_0:InstOk Pg 14 nt14 ⟨pa14_0,Fn14_0 f14_0⟩:=inst_ok eo14_0 followsTry is14 ⟨⟨sh14,cm14_0,em14_0,gm14_0,fm14_0⟩⟩
end
end Go.AM.K
