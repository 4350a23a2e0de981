/- Printed by KGen. -/
import Derived.Test.YtaondhhdefbfkaaGreatRw
namespace Go.AM.K
open Go.Proofs
set_option maxRecDepth 100000
set_option linter.unusedVariables false
noncomputable section
abbrev nt3:Nat:=185
def sh3:SG:=[(43,iT),(44,iT),(60,iT),(61,iT),(80,[.sl]),(114,iS 2),(119,[.int .i64,.int .i64,.int .i64,.int .i64,.int .i64,.int .i64,.sl,.int .i64,.int .i64]),(140,iT),(145,iT),(150,iT),(153,iT),(157,iT),(161,iT),(165,iT),(167,iT),(170,iT),(176,iT),(178,iT),(181,iT)]
def tr3:TG:=[tT 0 [0,1,2],tT 1 [0,1,2,20],tT 2 [6],tT 3 [0,1,2,38],tT 4 [6],tT 5 [0,1,2,7],tT 6 [0,1,2,7,8],tT 7 [0,1,2,7,8,9],tT 8 [0,1,2,7,8,9,10],tT 9 [0,1,2,7,8,9,10,55],tT 11 [0,1,2,7,8,9,10,11],tT 12 [0,1,2,7,8,9,10,11,64],tT 13 [6],tT 14 [0,1,2,7,8,9,10,11,69],tT 15 [0,1,2,7,8,9,10,11,74],tT 16 [6],tT 17 [0,1,2,7,8,9,10,11,12],tT 18 [0,1,2,7,8,9,10,11],tT 19 [0,1,2,7,8,9,10],tT 10 [0,1,2,7,8,9,10],tT 20 [0,8,13,14],tT 21 [0,8,13,14,104],tT 22 [6],tT 23 [8,15,16],tT 24 [15,16,17,18],tT 25 [15,16,17,18,128],tT 26 [6],tT 27 [15,17,148],tT 28 [6],tT 29 [6]]
def tl3:TG:=[(9,⟨[0,1,2,7,8,9,10],true,[⟨false,9,0,20009,2⟩,⟨true,8,6,30806,5⟩],[]⟩)]
def ac3:ACode:=codeF Pg Tryz.f3 tr3 tl3
def rs3:List AResV:=resF Pg Tryz.f3
def td3_25:OT:=tdC (MCode.sub [1,1,1,1,1,1,0,1,0] (emb ac3))
def p3_0_0:PT St:=pS [sI 0,sY 1 dL,sI 2,sI 7,sP 8,sl 9 (aV false [(cRef 20009)]),sI 10] [eBox 8 [xI,xI,xI,xI,xI,xI,(cRef 30806),xI,xI],eOwn 30806 5,eOwn 20009 2]
def u3_0_0 {β:Type}(g:St->β):Int->Rows->Int->Int->Int->Int->Int->Int->Int->Int->Int->Int->Int->Rows->Rows->β:=p3_0_0.unc g
def p3_0_1:PT St:=pS [sY 6 dB] []
def u3_0_1 {β:Type}(g:St->β):Bool->β:=p3_0_1.unc g
def p3_0_2:PT St:=pS [sI 0,sY 1 dL,sI 2,sI 7,sP 8,sl 9 (aV false [(cRef 20009)]),sI 10,sY 55 dB] [eBox 8 [xI,xI,xI,xI,xI,xI,(cRef 30806),xI,xI],eOwn 30806 5,eOwn 20009 2]
def u3_0_2 {β:Type}(g:St->β):Int->Rows->Int->Int->Int->Bool->Int->Int->Int->Int->Int->Int->Int->Int->Rows->Rows->β:=p3_0_2.unc g
def p3_0_3:PT St:=pS [sP 15,sI 16,sP 17,sI 18] [eBox 15 [xI,xI],eBox 17 (xs 6)]
def u3_0_3 {β:Type}(g:St->β):I10 β:=p3_0_3.unc g
def p3_0_4:PT St:=pS [sP 15,sI 16,sP 17,sI 18,sY 128 dB] [eBox 15 [xI,xI],eBox 17 (xs 6)]
def u3_0_4 {β:Type}(g:St->β):Int->Int->Bool->I8 β:=p3_0_4.unc g
def pr3_0_0:PT (List RV):=pRs [pR false [rD dB]]
def ur3_0_0 {β:Type}(g:List RV->β):Bool->β:=pr3_0_0.unc g
def E3_0g (a:Tf4_0)(b:Tf5_0)(c:Tf6_0)(d:Tf7_0)(e:Tf8_0)(g:Tf9_0)(h:Tf10_0)(i:Tf11_0):EnvK:=EnvK.of [⟨4,nt4,[⟨pa4_0,Fn4_0 a⟩]⟩,⟨5,nt5,[⟨pa5_0,Fn5_0 b⟩]⟩,⟨6,nt6,[⟨pa6_0,Fn6_0 c⟩]⟩,⟨7,nt7,[⟨pa7_0,Fn7_0 d⟩]⟩,⟨8,nt8,[⟨pa8_0,Fn8_0 e⟩]⟩,⟨9,nt9,[⟨pa9_0,Fn9_0 g⟩]⟩,⟨10,nt10,[⟨pa10_0,Fn10_0 h⟩]⟩,⟨11,nt11,[⟨pa11_0,Fn11_0 i⟩]⟩] noSeq
def E3_0:EnvK:=E3_0g f4_0 f5_0 f6_0 f7_0 f8_0 f9_0 f10_0 f11_0
theorem eo3_0:E3_0.Ok Pg:=EnvK.of_ok noSeq_ok ⟨⟨io4_0,TT⟩,⟨io5_0,TT⟩,⟨io6_0,TT⟩,⟨io7_0,TT⟩,⟨io8_0,TT⟩,⟨io9_0,TT⟩,⟨io10_0,TT⟩,⟨io11_0,TT⟩,TT⟩
def c3_0_68g:MCode:=MCode.sub [1,1,1,1,1,1,1,1,1,1,1,0,0] (emb ac3)
def c3_0_68:MCode:=c3_0_68g
abbrev TJ3_0_1:Type 1:=(α:Type)->Int->Int->(Bool->Op α)->Op α
def J3_0_1g (α:Type)(a b:Int)(k1:Bool->Op α):Op α:=
 cK (a != 0)
 (k1 true)
 (k1 (b != 0))
def J3_0_1 (α:Type)(a b:Int)(k1:Bool->Op α):Op α:=J3_0_1g α a b k1
def F3_0_1 (v:TJ3_0_1)(α:Type)(K:KT α):I10 (Op α):=fun a b c d e g h i j l=>v α a b (fun m=>u3_0_4 (K .normal) a b m c d e g h i j l)
theorem m3_0_1g (a:Tf4_0)(b:Tf5_0)(c:Tf6_0)(d:Tf7_0)(e:Tf8_0)(g:Tf9_0)(h:Tf10_0)(i:Tf11_0)(α:Type)(K:KT α):F3_0_1 (J3_0_1g ) α K=p3_0_3.unc fun σ=>runM Pg (E3_0g a b c d e g h i) sh3 (c3_0_68g ) K σ:=by kernel_rfl
theorem m3_0_1:∀ (α:Type) (K:KT α),F3_0_1 J3_0_1 α K=p3_0_3.unc fun σ=>runM Pg E3_0 sh3 c3_0_68 K σ:=m3_0_1g f4_0 f5_0 f6_0 f7_0 f8_0 f9_0 f10_0 f11_0
def c3_0_25g:MCode:=MCode.sub [1,1,1,1,1,1,0,1,0,0] (emb ac3)
def c3_0_25:MCode:=c3_0_25g
def S3_0_0g (j:Tf5_0)(l:Tf6_0)(α:Type)(d:Rows)(c b:Int)(e g:Rows)(kn:Int->Rows->Rows->Op α)(k1:Op α)(k2:Int->Bool->Rows->Rows->Op α):Op α:=
 cK (decide (b < ((List.length d:Nat):Int)))
 (rowK d b [.int .i64]
 (fun a=>j α a 5000 80000
 (fun m=>cK (!m)
 (k1)
 (cK (decide (b < (w64 (((List.length d:Nat):Int) - 1))))
 (gK (a != 0) (cK ((Int.tmod (w64 (c*2500)) a) != 0)
 (k1)
 (gK (a != 0) (gK (apOk 5 40 e [[DC.v (.int .i64 a),DC.v (.int .i64 a),DC.v (.int .i64 (w64 (Int.tdiv (w64 (c*2500)) a))),DC.v (.int .i64 (w64 (Int.tdiv (w64 (c*2500)) a))),DC.v (.int .i64 0)]]) (l α a 10000
 (fun h i=>gK (apOk 2 16 g [[DC.v (.int .i64 h),DC.v (.int .i64 i)]]) (kn (w64 (b+1)) (e++[[DC.v (.int .i64 a),DC.v (.int .i64 a),DC.v (.int .i64 (w64 (Int.tdiv (w64 (c*2500)) a))),DC.v (.int .i64 (w64 (Int.tdiv (w64 (c*2500)) a))),DC.v (.int .i64 0)]]) (g++[[DC.v (.int .i64 h),DC.v (.int .i64 i)]]))))))))
 (kn (w64 (b+1)) e g)))))
 (k2 b (decide (b < ((List.length d:Nat):Int))) e g)
def S3_0_0 (α:Type)(a:Rows)(b c:Int)(d e:Rows)(kn:Int->Rows->Rows->Op α)(k1:Op α)(k2:Int->Bool->Rows->Rows->Op α):Op α:=S3_0_0g f5_0 f6_0 α a b c d e kn k1 k2
def R3_0_0 (α:Type)(a:Rows)(b:Int)(k1:Op α)(k2:Int->Bool->Rows->Rows->Op α):Nat->Int->Rows->Rows->Op α
 | 0,_,_,_=>none
 | n+1,c,d,e=>S3_0_0 α a b c d e (R3_0_0 α a b k1 k2 n) k1 k2
def L3_0_0 (α:Type)(a:Rows)(b:Int)(k1:Op α)(k2:Int->Bool->Rows->Rows->Op α)(c:Int)(d e:Rows):Op α:=R3_0_0 α a b k1 k2 fuel c d e
abbrev TL3_0_0:Type 1:=(α:Type)->Rows->Int->(Op α)->(Int->Bool->Rows->Rows->Op α)->Int->Rows->Rows->Op α
def F3_0_0 (v:TL3_0_0)(α:Type)(K:KT α):Int->Rows->Int->Int->Int->Int->Int->Int->Int->Int->Int->Int->Int->Rows->Rows->Op α:=fun c a b d e g h i j l m o p q r=>v α a b (u3_0_1 (K .ret) true) (fun s t w z=>u3_0_2 (K (.exit 0)) c a b d s t g h i j l m o p w z) e q r
theorem r3_0_0g (w:Tf4_0)(s:Tf5_0)(t:Tf6_0)(z:Tf7_0)(A:Tf8_0)(B:Tf9_0)(C:Tf10_0)(D:Tf11_0)(α:Type)(K:KT α)(Kn:SK α)(g:Int)(a:Rows)(b h c i j l m o p q r:Int)(d e:Rows):u3_0_0 (fun σ=>runM Pg (E3_0g w s t z A B C D) sh3 (c3_0_25g ) (thenK (fun σ=>tidyK td3_25 σ Kn) K) σ) g a b h c i j l m o p q r d e=S3_0_0g s t α a b c d e (fun c d e=>u3_0_0 Kn g a b h c i j l m o p q r d e) (u3_0_1 (K .ret) true) (fun F G H I=>u3_0_2 (K (.exit 0)) g a b h F G i j l m o p q r H I):=by kernel_rfl
theorem r3_0_0 (α:Type)(K:KT α)(Kn:SK α)(g:Int)(a:Rows)(b h c i j l m o p q r:Int)(d e:Rows):u3_0_0 (fun σ=>runM Pg E3_0 sh3 c3_0_25 (thenK (fun σ=>tidyK td3_25 σ Kn) K) σ) g a b h c i j l m o p q r d e=S3_0_0 α a b c d e (fun c d e=>u3_0_0 Kn g a b h c i j l m o p q r d e) (u3_0_1 (K .ret) true) (fun s t w z=>u3_0_2 (K (.exit 0)) g a b h s t i j l m o p q r w z):=r3_0_0g f4_0 f5_0 f6_0 f7_0 f8_0 f9_0 f10_0 f11_0 α K Kn g a b h c i j l m o p q r d e
theorem t3_0_0 (α:Type)(K:KT α):∀ (n:Nat) (g:Int) (a:Rows) (b h c i j l m o p q r:Int) (d e:Rows),R3_0_0 α a b (u3_0_1 (K .ret) true) (fun s t w z=>u3_0_2 (K (.exit 0)) g a b h s t i j l m o p q r w z) n c d e=u3_0_0 (loopT (runM Pg E3_0 sh3 c3_0_25) td3_25 K n) g a b h c i j l m o p q r d e:=by
 intro n
 induction n with
 | zero=>intros;rfl
 | succ n ih=>intro g a b h c i j l m o p q r d e;exact (congrArg (fun kn=>S3_0_0 α a b c d e kn (u3_0_1 (K .ret) true) (fun s t w z=>u3_0_2 (K (.exit 0)) g a b h s t i j l m o p q r w z)) (funext fun c=>funext fun d=>funext fun e=>ih g a b h c i j l m o p q r d e)).trans (r3_0_0 α K (loopT (runM Pg E3_0 sh3 c3_0_25) td3_25 K n) g a b h c i j l m o p q r d e).symm
theorem m3_0_0:∀ (α:Type) (K:KT α),F3_0_0 L3_0_0 α K=p3_0_0.unc fun σ=>loopT (runM Pg E3_0 sh3 c3_0_25) td3_25 K fuel σ:=fun α K=>by funext a b c d e g h i j l m o p q r;exact t3_0_0 α K fuel a b c d e g h i j l m o p q r
abbrev Tf3_0:Type 1:=(α:Type)->Int->Rows->Int->(Bool->Op α)->Op α
def f3_0g (r:TJ3_0_1)(s:TL3_0_0)(t:Tf10_0)(l:Tf11_0)(w:Tf4_0)(a:Tf5_0)(m:Tf6_0)(z:Tf7_0)(A:Tf8_0)(B:Tf9_0)(α:Type)(g:Int)(b:Rows)(c:Int)(k1:Bool->Op α):Op α:=
 w α
 (cK (decide (((List.length b:Nat):Int) < 1))
 (k1 true)
 (cK (decide (7 < ((List.length b:Nat):Int)))
 (k1 true)
 (a α g 5000 20000
 (fun C=>cK (!C)
 (k1 true)
 (a α c 1000 200000
 (fun D=>cK (!D)
 (k1 true)
 (rowK b (w64 (((List.length b:Nat):Int) - 1)) [.int .i64]
 (fun o=>s α b c
 (k1 true)
 (fun W X F G=>m α o 10000
 (fun H I=>z α G H I
 (fun J L h=>cK (h != 0)
 (cK (h == 2)
 (k1 true)
 (k1 (h == 8)))
 (m α g 10000
 (fun M N=>A α M N J L
 (fun d e i=>B α g 0 0 0 c c F o 0
 (fun p q Y Z a0 a1 j=>r α i j
 (fun O=>cK O
 (cK (i != 0)
 (cK (i != 13)
 (k1 true)
 (k1 (j != 0)))
 (k1 (j != 0)))
 (a α d 0 1000000000
 (fun P=>cK (!P)
 (k1 false)
 (a α e 1 1000000000
 (fun Q=>cK (!Q)
 (k1 false)
 (t α (w64 (d*1048576)) e
 (fun R=>a α R (w64 (p - 1)) q
 (fun T=>cK T
 (l α d e p 1048576
 (fun U=>cK (decide (0<=U))
 (l α d e q 1048576
 (fun V=>k1 (decide (V<=0))))
 (k1 false)))
 (k1 false)))))))))))))))) 0 ([]:Rows) ([]:Rows)))))))))
def f3_0 (α:Type)(a:Int)(b:Rows)(c:Int)(k1:Bool->Op α):Op α:=f3_0g J3_0_1 L3_0_0 f10_0 f11_0 f4_0 f5_0 f6_0 f7_0 f8_0 f9_0 α a b c k1
def pa3_0:PT (List DV):=pA [vI,pV false [dL],vI]
def Fn3_0 (v:Tf3_0)(α:Type)(k:RT α):Int->Rows->Int->Op α:=fun a b c=>v α a b c (fun d=>ur3_0_0 k d)
def cm3_0g (a:TL3_0_0)(b:TJ3_0_1):MCode:=(MCode.put (.m [⟨p3_0_0,F3_0_0 a⟩]) [1,1,1,1,1,1,0,1,0] (MCode.put (.m [⟨p3_0_3,F3_0_1 b⟩]) [1,1,1,1,1,1,1,1,1,1,1,0] (emb ac3)))
def cm3_0:MCode:=cm3_0g L3_0_0 J3_0_1
theorem gm3_0:cm3_0.Good Pg E3_0 sh3:=(put_loop (td:=td3_25) (by kernel_rfl) (put_seq (by kernel_rfl) (emb_good ac3) ⟨m3_0_1,TT⟩) ⟨m3_0_0,TT⟩)
theorem em3_0:cm3_0.erase=ac3:=((put_erase _ _).trans ((put_erase _ _).trans (emb_erase _)))
theorem fm3_0g (a:Tf4_0)(b:Tf5_0)(c:Tf6_0)(d:Tf7_0)(e:Tf8_0)(g:Tf9_0)(h:Tf10_0)(i:Tf11_0)(j:TL3_0_0)(l:TJ3_0_1)(α:Type)(k:RT α):Fn3_0 (f3_0g l j h i a b c d e g) α k=pa3_0.unc fun ds=>fnM Pg (E3_0g a b c d e g h i) sh3 (cm3_0g j l) rs3 k ds:=by kernel_rfl
theorem fm3_0:∀ (α:Type) (k:RT α),Fn3_0 f3_0 α k=pa3_0.unc fun ds=>fnM Pg E3_0 sh3 cm3_0 rs3 k ds:=fm3_0g f4_0 f5_0 f6_0 f7_0 f8_0 f9_0 f10_0 f11_0 L3_0_0 J3_0_1
theorem is3:FnIs Pg 3 nt3 tr3 tl3 ac3 rs3:=codeF_is Tryz.func3 (by kernel_rfl)
theorem io3_0:InstOk Pg 3 nt3 ⟨pa3_0,Fn3_0 f3_0⟩:=inst_ok eo3_0 followsTry is3 ⟨⟨sh3,cm3_0,em3_0,gm3_0,fm3_0⟩⟩
end
end Go.AM.K
