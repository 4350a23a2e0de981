/- Printed by KGen. -/
import Derived.Test.YtehamglokkjipaaGreatQX7a
import Derived.Test.YtehamglokkjipaaGreatQEp
namespace Go.AM.K
open Go.Proofs
set_option maxRecDepth 100000
set_option linter.unusedVariables false
noncomputable section
abbrev nt165:Nat:=42
def sh165:SG:=[(27,iS 2),(28,iS 2),(34,iS 2),(36,iS 2),(40,iS 2),(41,iS 2)]
def r165_2:LA:=[oO 2 (.alloc [(cI 0),(cI 0)])]
def r165_4:LA:=[oO 10 (.call 160 [(kI 2251799813685248)]),oM 3 10]
def r165_6:LA:=[oO 11 (.build [(cI 0),(cI 0)] [(0,1,(kI 67108864))]),oM 12 3,oM 13 3,oO 14 (.build [(cI 0),(cI 0)] [(0,1,(.tmp 12)),(1,1,(.tmp 13))]),oO 4 (.alloc [(cI 0),(cI 0)]),oO 5 (.alloc [(cI 0),(cI 0)]),sD 2 4 11,sD 2 5 14]
def r165_8:LA:=[mK 6 0,mK 7 524288]
def td165_11:OT:=(tO [0,2,4,5,6,7])
def r165_14:LA:=[oM 15 0,oM 16 6,bT 17 .neq 15 16,oM 18 17,oG 19 (.mv (.tmp 0)) 18 true,oG 20 (.mv (.tmp 7)) 18 true,oG 21 (.bin .neq 3 (.tmp 19) (.tmp 20)) 18 true,oO 22 (.pick (.tmp 18) (.tmp 21) (.const (.bool false)))]
def r165_18:LA:=[oM 23 6,oM 24 7,bT 25 .add 23 24,bK 26 .quo 25 2,oM 8 26]
def r165_20:LA:=[lA 27 2 4,lA 28 2 5,oO 29 (.call 173 [(.tmp 27),(.tmp 28)]),oO 9 (.alloc [(cI 0),(cI 0)]),sD 2 9 29]
def r165_22:LA:=[oM 30 0,oM 31 8,bT 32 .geq 30 31]
def r165_24:LA:=[oM 33 8,lA 34 2 9,oM 6 33,sD 2 4 34]
def r165_25:LA:=[oM 35 8,lA 36 2 9,oM 7 35,sD 2 5 36]
def r165_28:LA:=[oM 37 0,oM 38 6,bT 39 .eql 37 38]
def r165_31:LA:=[lA 40 2 4,sD 2 2 40]
def r165_33:LA:=[lA 41 2 5,sD 2 2 41]
def tr165:TG:=[tT 0 [0,2],tT 1 [0,2,3],tT 2 [0,2,4,5],tT 3 [0,2,4,5,6,7],tT 4 [0,2,4,5,6,7,22],tT 5 [0,2,4,5,6,7,8],tT 6 [0,2,4,5,6,7,8,9],tT 7 [0,2,4,5,6,7,8,9,32],tT 8 [0,2,4,5,6,7],tT 9 [0,2,4,5,6,7],tT 10 [2,4,5,39],tT 11 [2],tT 12 [2]]
def tl165:TG:=[tT 4 [0,2,4,5,6,7]]
def rs165:List AResV:=[.cell 2 true 2]
def p165_0_0:PT St:=pS [sI 0,sP 2,sP 4,sP 5,sI 6,sI 7] [eBox 2 [xI,xI],eBox 4 [xI,xI],eBox 5 [xI,xI]]
def u165_0_0 {β:Type}(g:St->β):I9 β:=p165_0_0.unc g
def p165_0_1:PT St:=pS [sI 0,sP 2,sP 4,sP 5,sI 6,sI 7,sl 22 (aV false [(cD dB)])] [eBox 2 [xI,xI],eBox 4 [xI,xI],eBox 5 [xI,xI]]
def u165_0_1 {β:Type}(g:St->β):Int->Int->Int->Bool->I6 β:=p165_0_1.unc g
def pr165_0_0:PT (List RV):=pRs [pR true [rD (dI .i64),rD (dI .i64)]]
def ur165_0_0 {β:Type}(g:List RV->β):Int->Int->β:=pr165_0_0.unc g
def E165_0g (a:Tf160_0)(b:Tf173_0):EnvK:=EnvK.of [⟨160,nt160,[⟨pa160_0,Fn160_0 a⟩]⟩,⟨173,nt173,[⟨pa173_0,Fn173_0 b⟩]⟩] noSeq
def E165_0:EnvK:=E165_0g f160_0 f173_0
theorem eo165_0:E165_0.Ok Pg:=EnvK.of_ok noSeq_ok ⟨⟨io160_0,trivial⟩,⟨io173_0,trivial⟩,trivial⟩
def c165_0_11g:MCode:=(.seq (.seq (.region r165_14 [] (tO [0,2,4,5,6,7,22])) (.cond (.tmp 22) .skip (.exit 0))) (.block 1 (.seq (.region r165_18 [] (tO [0,2,4,5,6,7,8])) (.seq (.region r165_20 [] (tO [0,2,4,5,6,7,8,9])) (.seq (.region r165_22 [] (tO [0,2,4,5,6,7,8,9,32])) (.cond (.tmp 32) (.region r165_24 [] (tO [0,2,4,5,6,7])) (.region r165_25 [] (tO [0,2,4,5,6,7]))))))))
def c165_0_11:MCode:=c165_0_11g
theorem g165_0_11:c165_0_11.Good Pg E165_0 sh165:=⟨⟨trivial,trivial,trivial⟩,trivial,trivial,trivial,trivial,trivial⟩
def S165_0_0g (l:Tf173_0)(α:Type)(c b a d e g h:Int)(kn:I6 (Op α))(k1:Int->Int->Bool->I4 (Op α)):Op α:=
 cK (c != b)
 (cK (c != a)
 (l α d e g h
 (fun i j=>cK (decide ((w64 (Int.tdiv (w64 (b+a)) 2))<=c))
 (kn (w64 (Int.tdiv (w64 (b+a)) 2)) a i j g h)
 (kn b (w64 (Int.tdiv (w64 (b+a)) 2)) d e i j)))
 (k1 b a (c != a) d e g h))
 (k1 b a false d e g h)
def S165_0_0 (α:Type)(a b c d e g h:Int)(kn:I6 (Op α))(k1:Int->Int->Bool->I4 (Op α)):Op α:=S165_0_0g f173_0 α a b c d e g h kn k1
def R165_0_0 (α:Type)(a:Int)(k1:Int->Int->Bool->I4 (Op α)):Nat->I6 (Op α)
 | 0,_,_,_,_,_,_=>none
 | n+1,b,c,d,e,g,h=>S165_0_0 α a b c d e g h (R165_0_0 α a k1 n) k1
def L165_0_0 (α:Type)(a:Int)(k1:Int->Int->Bool->I4 (Op α))(b c d e g h:Int):Op α:=R165_0_0 α a k1 fuel b c d e g h
abbrev TL165_0_0:Type 1:=(α:Type)->Int->(Int->Int->Bool->I4 (Op α))->I6 (Op α)
def F165_0_0 (v:TL165_0_0)(α:Type)(K:KT α):I9 (Op α):=fun a b c d e g h i j=>v α a (fun l m o p q r s=>u165_0_1 (K (.exit 0)) a l m o d e p q r s) b c g h i j
theorem r165_0_0g (m:Tf160_0)(l:Tf173_0)(α:Type)(K:KT α)(Kn:SK α)(a b c i j d e g h:Int):u165_0_0 (fun σ=>runM Pg (E165_0g m l) sh165 (c165_0_11g ) (thenK (fun σ=>tidyK td165_11 σ Kn) K) σ) a b c i j d e g h=S165_0_0g l α a b c d e g h (fun b c d e g h=>u165_0_0 Kn a b c i j d e g h) (fun o p q r s t w=>u165_0_1 (K (.exit 0)) a o p q i j r s t w):=by kernel_rfl
theorem r165_0_0 (α:Type)(K:KT α)(Kn:SK α)(a b c i j d e g h:Int):u165_0_0 (fun σ=>runM Pg E165_0 sh165 c165_0_11 (thenK (fun σ=>tidyK td165_11 σ Kn) K) σ) a b c i j d e g h=S165_0_0 α a b c d e g h (fun b c d e g h=>u165_0_0 Kn a b c i j d e g h) (fun l m o p q r s=>u165_0_1 (K (.exit 0)) a l m o i j p q r s):=r165_0_0g f160_0 f173_0 α K Kn a b c i j d e g h
theorem t165_0_0 (α:Type)(K:KT α):∀ (n:Nat) (a b c i j d e g h:Int),R165_0_0 α a (fun l m o p q r s=>u165_0_1 (K (.exit 0)) a l m o i j p q r s) n b c d e g h=u165_0_0 (loopT (runM Pg E165_0 sh165 c165_0_11) td165_11 K n) a b c i j d e g h:=by
 intro n
 induction n with
 | zero=>intros;rfl
 | succ n ih=>intro a b c i j d e g h;exact (congrArg (fun kn=>S165_0_0 α a b c d e g h kn (fun l m o p q r s=>u165_0_1 (K (.exit 0)) a l m o i j p q r s)) (funext fun b=>funext fun c=>funext fun d=>funext fun e=>funext fun g=>funext fun h=>ih a b c i j d e g h)).trans (r165_0_0 α K (loopT (runM Pg E165_0 sh165 c165_0_11) td165_11 K n) a b c i j d e g h).symm
theorem m165_0_0:∀ (α:Type) (K:KT α),F165_0_0 L165_0_0 α K=p165_0_0.unc fun σ=>loopT (runM Pg E165_0 sh165 c165_0_11) td165_11 K fuel σ:=fun α K=>by funext a b c d e g h i j;exact t165_0_0 α K fuel a b c d e g h i j
abbrev Tf165_0:Type 1:=(α:Type)->Int->(Int->Int->Op α)->Op α
def f165_0g (c:TL165_0_0)(d:Tf160_0)(α:Type)(a:Int)(k1:Int->Int->Op α):Op α:=
 d α 2251799813685248
 (fun b=>c α a
 (fun e l m g h i j=>cK (a == e)
 (k1 g h)
 (k1 i j)) 0 524288 67108864 0 b b)
def f165_0 (α:Type)(a:Int)(k1:Int->Int->Op α):Op α:=f165_0g L165_0_0 f160_0 α a k1
def pa165_0:PT (List DV):=pA [vI]
def Fn165_0 (v:Tf165_0)(α:Type)(k:RT α):Int->Op α:=fun a=>v α a (fun b c=>ur165_0_0 k b c)
def cm165_0g (a:TL165_0_0):MCode:=(.seq (.region r165_2 [] (tO [0,2])) (.seq (.region r165_4 [] (tO [0,2,3])) (.seq (.region r165_6 [] (tO [0,2,4,5])) (.seq (.region r165_8 [] (tO [0,2,4,5,6,7])) (.seq (.block 0 (.loop td165_11 [⟨p165_0_0,F165_0_0 a⟩] c165_0_11)) (.seq (.seq (.region r165_28 [] (tO [2,4,5,39])) (.cond (.tmp 39) (.seq (.region r165_31 [] (tO [2])) .ret) .skip)) (.seq (.region r165_33 [] (tO [2])) .ret)))))))
def cm165_0:MCode:=cm165_0g L165_0_0
theorem gm165_0:cm165_0.Good Pg E165_0 sh165:=⟨trivial,trivial,trivial,trivial,⟨g165_0_11,m165_0_0,trivial⟩,⟨trivial,⟨trivial,trivial⟩,trivial⟩,trivial,trivial⟩
theorem fm165_0g (a:Tf160_0)(c:Tf173_0)(b:TL165_0_0)(α:Type)(k:RT α):Fn165_0 (f165_0g b a) α k=pa165_0.unc fun ds=>fnM Pg (E165_0g a c) sh165 (cm165_0g b) rs165 k ds:=by kernel_rfl
theorem fm165_0:∀ (α:Type) (k:RT α),Fn165_0 f165_0 α k=pa165_0.unc fun ds=>fnM Pg E165_0 sh165 cm165_0 rs165 k ds:=fm165_0g f160_0 f173_0 L165_0_0
theorem is165:FnIs Pg 165 nt165 tr165 tl165 cm165_0.erase rs165:=⟨Tryz.f165,Tryz.func165,rfl,by kernel_rfl,by kernel_rfl,by kernel_rfl⟩
theorem io165_0:InstOk Pg 165 nt165 ⟨pa165_0,Fn165_0 f165_0⟩:=inst_ok eo165_0 followsTry is165 ⟨⟨sh165,cm165_0,by kernel_rfl,gm165_0,fm165_0⟩⟩
abbrev nt140:Nat:=34
def sh140:SG:=[(19,iT),(23,iT),(27,iT)]
def r140_2:LA:=[oO 4 (.alloc (zI 3)),mK 5 0]
def r140_4:LA:=[oM 9 0,bK 10 .mul 9 4194304,oM 6 10]
def r140_6:LA:=[oM 11 6,oM 12 1,oO 13 (.call 76 [(.tmp 11),(.tmp 12)]),oM 14 6,oM 15 1,oO 16 (.call 77 [(.tmp 14),(.tmp 15)]),oO 17 (.build [(cI 0),(cI 0)] [(0,1,(.tmp 13)),(1,1,(.tmp 16))]),oO 7 (.alloc [(cI 0),(cI 0)]),sD 2 7 17]
def r140_8:LA:=[fA 18 0 7,lD 19 18,oO 20 (.call 76 [(.tmp 19),(kI 4194304)]),bK 21 .mul 20 4194304,oM 8 21]
def r140_10:LA:=[fA 22 0 7,lD 23 22,oM 24 8,bT 25 .sub 23 24,fA 26 1 7,lD 27 26,oM 28 8,bT 29 .sub 27 28,oO 30 (.build [(cI 0),(cI 0)] [(0,1,(.tmp 25)),(1,1,(.tmp 29))]),oO 31 (.call 158 [.tmp 30]),oO 32 (.extract 0 (.tmp 31)),oO 33 (.extract 1 (.tmp 31)),sD 3 4 32,oM 5 33]
def tr140:TG:=[tT 0 [0,1,4],tT 1 [1,4,6],tT 2 [4,7],tT 3 [4,7,8],tT 4 [4,5]]
def tl140:TG:=[]
def rs140:List AResV:=[.cell 4 true 3,.tmp 5]
def pr140_0_0:PT (List RV):=pRs [pR true [rD (dI .i64),rD (dI .i64),rD (dI .i64)],wI]
def ur140_0_0 {β:Type}(g:List RV->β):I4 β:=pr140_0_0.unc g
def E140_0g (a:Tf76_0)(b:Tf77_0)(c:Tf158_0):EnvK:=EnvK.of [⟨76,nt76,[⟨pa76_0,Fn76_0 a⟩]⟩,⟨77,nt77,[⟨pa77_0,Fn77_0 b⟩]⟩,⟨158,nt158,[⟨pa158_0,Fn158_0 c⟩]⟩] noSeq
def E140_0:EnvK:=E140_0g f76_0 f77_0 f158_0
theorem eo140_0:E140_0.Ok Pg:=EnvK.of_ok noSeq_ok ⟨⟨io76_0,trivial⟩,⟨io77_0,trivial⟩,⟨io158_0,trivial⟩,trivial⟩
abbrev Tf140_0:Type 1:=(α:Type)->Int->Int->(I4 (Op α))->Op α
def f140_0g (g:Tf158_0)(a:Tf76_0)(h:Tf77_0)(α:Type)(b c:Int)(k1:I4 (Op α)):Op α:=
 a α (w64 (b*4194304)) c
 (fun d=>h α (w64 (b*4194304)) c
 (fun i=>a α d 4194304
 (fun e=>g α (w64 (d - (w64 (e*4194304)))) (w64 (i - (w64 (e*4194304))))
 (fun j l m o=>k1 j l m o))))
def f140_0 (α:Type)(a b:Int)(k1:I4 (Op α)):Op α:=f140_0g f158_0 f76_0 f77_0 α a b k1
def pa140_0:PT (List DV):=pA [vI,vI]
def Fn140_0 (v:Tf140_0)(α:Type)(k:RT α):Int->Int->Op α:=fun a b=>v α a b (fun c d e g=>ur140_0_0 k c d e g)
def cm140_0g:MCode:=(.seq (.region r140_2 [] (tO [0,1,4])) (.seq (.region r140_4 [] (tO [1,4,6])) (.seq (.region r140_6 [] (tO [4,7])) (.seq (.region r140_8 [] (tO [4,7,8])) (.seq (.region r140_10 [] (tO [4,5])) .ret)))))
def cm140_0:MCode:=cm140_0g
theorem gm140_0:cm140_0.Good Pg E140_0 sh140:=⟨trivial,trivial,trivial,trivial,trivial,trivial⟩
theorem fm140_0g (a:Tf76_0)(b:Tf77_0)(c:Tf158_0)(α:Type)(k:RT α):Fn140_0 (f140_0g c a b) α k=pa140_0.unc fun ds=>fnM Pg (E140_0g a b c) sh140 (cm140_0g ) rs140 k ds:=by kernel_rfl
theorem fm140_0:∀ (α:Type) (k:RT α),Fn140_0 f140_0 α k=pa140_0.unc fun ds=>fnM Pg E140_0 sh140 cm140_0 rs140 k ds:=fm140_0g f76_0 f77_0 f158_0
theorem is140:FnIs Pg 140 nt140 tr140 tl140 cm140_0.erase rs140:=⟨Tryz.f140,Tryz.func140,rfl,by kernel_rfl,by kernel_rfl,by kernel_rfl⟩
theorem io140_0:InstOk Pg 140 nt140 ⟨pa140_0,Fn140_0 f140_0⟩:=inst_ok eo140_0 followsTry is140 ⟨⟨sh140,cm140_0,by kernel_rfl,gm140_0,fm140_0⟩⟩
abbrev nt115:Nat:=58
def sh115:SG:=[(12,iS 2),(14,iS 2),(18,iT),(24,iT),(32,iS 2),(35,iT),(38,iS 2),(41,iT),(45,iT),(47,iT)]
def r115_2:LA:=[oO 2 (.box (.tmp 0)),oO 3 (.box (.tmp 1)),oO 4 (.alloc (zI 3)),mK 5 0]
def r115_4:LA:=[fA 11 0 2,lA 12 2 11,fA 13 0 3,lA 14 2 13,oO 15 (.call 116 [(.tmp 12),(.tmp 14)]),oO 6 (.alloc [(cI 0),(cI 0)]),sD 2 6 15]
def r115_6:LA:=[fA 17 0 6,lD 18 17,oO 19 (.call 117 [(.tmp 18),(kI 1048576)]),oM 16 19,oO 20 (.extract 0 (.tmp 16)),oO 21 (.extract 1 (.tmp 16)),oM 7 20,oM 8 21]
def r115_8:LA:=[fA 23 1 6,lD 24 23,oO 25 (.call 117 [(.tmp 24),(kI 1048576)]),oM 22 25,oO 26 (.extract 0 (.tmp 22)),oO 27 (.extract 1 (.tmp 22)),oM 9 26,oM 10 27]
def r115_10:LA:=[oM 28 7,oM 29 9,oO 30 (.build [(cI 0),(cI 0)] [(0,1,(.tmp 28)),(1,1,(.tmp 29))]),fA 31 0 2,lA 32 2 31,oO 33 (.call 119 [.tmp 32]),fA 34 2 3,lD 35 34,bT 36 .mul 33 35,fA 37 0 3,lA 38 2 37,oO 39 (.call 119 [.tmp 38]),fA 40 2 2,lD 41 40,bT 42 .mul 39 41,bT 43 .add 36 42,fA 44 2 2,lD 45 44,fA 46 2 3,lD 47 46,bT 48 .mul 45 47,bT 49 .add 43 48,oO 50 (.call 118 [(.tmp 49),(kI 1048576)]),oM 51 8,oM 52 51,oG 53 (.mv (.tmp 10)) 52 false,oO 54 (.pick (.tmp 52) (.const (.bool true)) (.tmp 53)),oO 55 (.call 120 [.tmp 54]),bT 56 .add 50 55,oO 57 (.build (zI 3) [(0,2,(.tmp 30)),(2,1,(.tmp 56))]),sD 3 4 57,mK 5 0]
def tr115:TG:=[tT 0 [2,3,4],tT 1 [2,3,4,6],tT 2 [2,3,4,6,7,8],tT 3 [2,3,4,7,8,9,10],tT 4 [4,5]]
def tl115:TG:=[]
def rs115:List AResV:=[.cell 4 true 3,.tmp 5]
def pr115_0_0:PT (List RV):=pRs [pR true [rD (dI .i64),rD (dI .i64),rD (dI .i64)],wI]
def ur115_0_0 {β:Type}(g:List RV->β):I4 β:=pr115_0_0.unc g
def E115_0g (a:Tf116_0)(b:Tf117_0)(c:Tf119_0)(d:Tf118_0)(e:Tf120_0):EnvK:=EnvK.of [⟨116,nt116,[⟨pa116_0,Fn116_0 a⟩]⟩,⟨117,nt117,[⟨pa117_0,Fn117_0 b⟩]⟩,⟨119,nt119,[⟨pa119_0,Fn119_0 c⟩]⟩,⟨118,nt118,[⟨pa118_0,Fn118_0 d⟩]⟩,⟨120,nt120,[⟨pa120_0,Fn120_0 e⟩]⟩] noSeq
def E115_0:EnvK:=E115_0g f116_0 f117_0 f119_0 f118_0 f120_0
theorem eo115_0:E115_0.Ok Pg:=EnvK.of_ok noSeq_ok ⟨⟨io116_0,trivial⟩,⟨io117_0,trivial⟩,⟨io119_0,trivial⟩,⟨io118_0,trivial⟩,⟨io120_0,trivial⟩,trivial⟩
abbrev Tf115_0:Type 1:=(α:Type)->Int->Int->Int->Int->Int->Int->(Int->Int->Int->Op α)->Op α
def f115_0g (p:Tf116_0)(a:Tf117_0)(q:Tf118_0)(b:Tf119_0)(c:Tf120_0)(α:Type)(d e g h i j:Int)(k1:Int->Int->Int->Op α):Op α:=
 p α d e h i
 (fun r s=>a α r 1048576
 (fun l t=>a α s 1048576
 (fun m w=>b α d e
 (fun z=>b α h i
 (fun A=>q α (w64 ((w64 ((w64 (z*j))+(w64 (A*g))))+(w64 (g*j)))) 1048576
 (fun o=>cK t
 (c α true
 (fun B=>k1 l m (w64 (o+B))))
 (c α w
 (fun C=>k1 l m (w64 (o+C))))))))))
def f115_0 (α:Type)(a b c d e g:Int)(k1:Int->Int->Int->Op α):Op α:=f115_0g f116_0 f117_0 f118_0 f119_0 f120_0 α a b c d e g k1
def pa115_0:PT (List DV):=pA [pV true [(dI .i64),(dI .i64),(dI .i64)],pV true [(dI .i64),(dI .i64),(dI .i64)]]
def Fn115_0 (v:Tf115_0)(α:Type)(k:RT α):I6 (Op α):=fun a b c d e g=>v α a b c d e g (fun h i j=>ur115_0_0 k h i j 0)
def cm115_0g:MCode:=(.seq (.region r115_2 [] (tO [2,3,4])) (.seq (.region r115_4 [] (tO [2,3,4,6])) (.seq (.region r115_6 [] (tO [2,3,4,6,7,8])) (.seq (.region r115_8 [] (tO [2,3,4,7,8,9,10])) (.seq (.region r115_10 [(5,7),(5,10),(7,11),(5,13),(11,13),(5,17),(11,17),(5,19),(11,19)] (tO [4,5])) .ret)))))
def cm115_0:MCode:=cm115_0g
theorem gm115_0:cm115_0.Good Pg E115_0 sh115:=⟨trivial,trivial,trivial,trivial,trivial,trivial⟩
theorem fm115_0g (a:Tf116_0)(b:Tf117_0)(c:Tf119_0)(d:Tf118_0)(e:Tf120_0)(α:Type)(k:RT α):Fn115_0 (f115_0g a b d c e) α k=pa115_0.unc fun ds=>fnM Pg (E115_0g a b c d e) sh115 (cm115_0g ) rs115 k ds:=by kernel_rfl
theorem fm115_0:∀ (α:Type) (k:RT α),Fn115_0 f115_0 α k=pa115_0.unc fun ds=>fnM Pg E115_0 sh115 cm115_0 rs115 k ds:=fm115_0g f116_0 f117_0 f119_0 f118_0 f120_0
theorem is115:FnIs Pg 115 nt115 tr115 tl115 cm115_0.erase rs115:=⟨Tryz.f115,Tryz.func115,rfl,by kernel_rfl,by kernel_rfl,by kernel_rfl⟩
theorem io115_0:InstOk Pg 115 nt115 ⟨pa115_0,Fn115_0 f115_0⟩:=inst_ok eo115_0 followsTry is115 ⟨⟨sh115,cm115_0,by kernel_rfl,gm115_0,fm115_0⟩⟩
abbrev nt94:Nat:=25
def sh94:SG:=[(8,[.cpx .f64]),(16,iT),(20,iS 2),(22,iT)]
def r94_2:LA:=[oO 1 (.box (.tmp 0)),oO 2 (.alloc (zI 3)),mK 3 0]
def r94_4:LA:=[fA 7 0 1,lD 8 7,oO 9 (.call 95 [(.tmp 8),(.const (.float Go.FloatKind.f64 4724276009111650304))]),oM 6 9,oO 10 (.extract 0 (.tmp 6)),oO 11 (.extract 1 (.tmp 6)),oO 4 (.alloc [(cI 0),(cI 0)]),sD 2 4 10,oM 5 11]
def r94_7:LA:=[oM 12 5,oO 13 (.bin .eql 26 (.tmp 12) (kI 0)),oM 14 13,oG 15 (.faddr 1 (.tmp 1)) 14 true,oG 16 (.load false 1 (.tmp 15)) 14 true,oG 17 (.call 127 [(.tmp 16),(kI 0),(kI 67108864)]) 14 true,oG 18 (.pure (oB (.unOp .not 4 (.tmp 17)) 4)) 14 true,oO 19 (.pick (.tmp 14) (.tmp 18) (.const (.bool false)))]
def r94_9:LA:=[mK 5 2]
def r94_11:LA:=[lA 20 2 4,fA 21 1 1,lD 22 21,oO 23 (.build (zI 3) [(0,2,(.tmp 20)),(2,1,(.tmp 22))]),oM 24 5,sD 3 2 23,oM 3 24]
def tr94:TG:=[tT 0 [1,2],tT 1 [1,2,4,5],tT 2 [1,2,4,5,19],tT 3 [1,2,4,5],tT 4 [2,3]]
def tl94:TG:=[]
def rs94:List AResV:=[.cell 2 true 3,.tmp 3]
def p94_0_0:PT St:=pS [sP 1,sP 2,sP 4,sI 5] [eBox 1 [(cD (dX .f64)),xI],eBox 2 (xs 3),eBox 4 [xI,xI]]
def u94_0_0 {β:Type}(g:St->β):Int->Nat->Nat->I6 β:=p94_0_0.unc g
def p94_0_1:PT St:=pS [sP 1,sP 2,sP 4,sI 5,sl 19 (aV false [(cD dB)])] [eBox 1 [(cD (dX .f64)),xI],eBox 2 (xs 3),eBox 4 [xI,xI]]
def u94_0_1 {β:Type}(g:St->β):Int->Bool->Nat->Nat->I6 β:=p94_0_1.unc g
def pr94_0_0:PT (List RV):=pRs [pR true [rD (dI .i64),rD (dI .i64),rD (dI .i64)],wI]
def ur94_0_0 {β:Type}(g:List RV->β):I4 β:=pr94_0_0.unc g
def E94_0g (a:Tf95_0)(b:Tf127_0):EnvK:=EnvK.of [⟨95,nt95,[⟨pa95_0,Fn95_0 a⟩]⟩,⟨127,nt127,[⟨pa127_0,Fn127_0 b⟩]⟩] noSeq
def E94_0:EnvK:=E94_0g f95_0 f127_0
theorem eo94_0:E94_0.Ok Pg:=EnvK.of_ok noSeq_ok ⟨⟨io95_0,trivial⟩,⟨io127_0,trivial⟩,trivial⟩
def c94_0_5g:MCode:=(.seq (.region r94_7 [] (tO [1,2,4,5,19])) (.cond (.tmp 19) (.region r94_9 [] (tO [1,2,4,5])) .skip))
def c94_0_5:MCode:=c94_0_5g
theorem g94_0_5:c94_0_5.Good Pg E94_0 sh94:=⟨trivial,trivial,trivial⟩
abbrev TJ94_0_0:Type 1:=(α:Type)->Int->Int->(Op α)->(Bool->Op α)->Op α
def J94_0_0g (b:Tf127_0)(α:Type)(c d:Int)(k1:Op α)(k2:Bool->Op α):Op α:=
 cK (c == 0)
 (b α d 0 67108864
 (fun a=>cK (!a)
 (k1)
 (k2 (!a))))
 (k2 false)
def J94_0_0 (α:Type)(a b:Int)(k1:Op α)(k2:Bool->Op α):Op α:=J94_0_0g f127_0 α a b k1 k2
def F94_0_0 (v:TJ94_0_0)(α:Type)(K:KT α):Int->Nat->Nat->I6 (Op α):=fun b c d a e g h i j=>v α b a (u94_0_0 (K .normal) 2 c d a e g h i j) (fun l=>u94_0_1 (K .normal) b l c d a e g h i j)
theorem m94_0_0g (b:Tf95_0)(a:Tf127_0)(α:Type)(K:KT α):F94_0_0 (J94_0_0g a) α K=p94_0_0.unc fun σ=>runM Pg (E94_0g b a) sh94 (c94_0_5g ) K σ:=by kernel_rfl
theorem m94_0_0:∀ (α:Type) (K:KT α),F94_0_0 J94_0_0 α K=p94_0_0.unc fun σ=>runM Pg E94_0 sh94 c94_0_5 K σ:=m94_0_0g f95_0 f127_0
abbrev Tf94_0:Type 1:=(α:Type)->Nat->Nat->Int->(Int->Int->Int->Op α)->Op α
def f94_0g (d:TJ94_0_0)(e:Tf95_0)(α:Type)(g h:Nat)(i:Int)(k1:Int->Int->Int->Op α):Op α:=
 e α g h 4724276009111650304
 (fun a b c=>d α c i
 (k1 a b 2)
 (fun j=>k1 a b c))
def f94_0 (α:Type)(a b:Nat)(c:Int)(k1:Int->Int->Int->Op α):Op α:=f94_0g J94_0_0 f95_0 α a b c k1
def pa94_0:PT (List DV):=pA [pV true [(dX .f64),(dI .i64)]]
def Fn94_0 (v:Tf94_0)(α:Type)(k:RT α):Nat->Nat->Int->Op α:=fun b c a=>v α b c a (fun d e g=>ur94_0_0 k d e a g)
def cm94_0g (a:TJ94_0_0):MCode:=(.seq (.region r94_2 [] (tO [1,2])) (.seq (.region r94_4 [] (tO [1,2,4,5])) (.seq (.mark [⟨p94_0_0,F94_0_0 a⟩] c94_0_5) (.seq (.region r94_11 [] (tO [2,3])) .ret))))
def cm94_0:MCode:=cm94_0g J94_0_0
theorem gm94_0:cm94_0.Good Pg E94_0 sh94:=⟨trivial,trivial,⟨g94_0_5,m94_0_0,trivial⟩,trivial,trivial⟩
theorem fm94_0g (a:Tf95_0)(c:Tf127_0)(b:TJ94_0_0)(α:Type)(k:RT α):Fn94_0 (f94_0g b a) α k=pa94_0.unc fun ds=>fnM Pg (E94_0g a c) sh94 (cm94_0g b) rs94 k ds:=by kernel_rfl
theorem fm94_0:∀ (α:Type) (k:RT α),Fn94_0 f94_0 α k=pa94_0.unc fun ds=>fnM Pg E94_0 sh94 cm94_0 rs94 k ds:=fm94_0g f95_0 f127_0 J94_0_0
theorem is94:FnIs Pg 94 nt94 tr94 tl94 cm94_0.erase rs94:=⟨Tryz.f94,Tryz.func94,rfl,by kernel_rfl,by kernel_rfl,by kernel_rfl⟩
theorem io94_0:InstOk Pg 94 nt94 ⟨pa94_0,Fn94_0 f94_0⟩:=inst_ok eo94_0 followsTry is94 ⟨⟨sh94,cm94_0,by kernel_rfl,gm94_0,fm94_0⟩⟩
abbrev nt156:Nat:=36
def sh156:SG:=[(30,iT),(32,iT)]
def r156_2:LA:=[oO 2 (.alloc [(cI 0),(cI 0)])]
def r156_4:LA:=[oM 4 0,oM 5 0,oO 6 (.call 139 [(.tmp 5),(kI 4194304)]),oO 7 (.bin .mul 3 (kI 4194304) (.tmp 6)),bT 8 .sub 4 7,oM 0 8]
def r156_8:LA:=[oM 10 0,bK 11 .geq 10 2097152,oM 9 11]
def r156_11:LA:=[oM 12 0,bK 13 .sub 12 2097152,oO 14 (.call 156 [.tmp 13]),oO 15 (.call 164 [(.tmp 14),(kI 2)]),sD 2 2 15]
def r156_13:LA:=[oM 17 0,bK 18 .geq 17 1048576,oM 16 18]
def r156_16:LA:=[oM 19 0,bK 20 .sub 19 1048576,oO 21 (.call 156 [.tmp 20]),oO 22 (.call 164 [(.tmp 21),(kI 1)]),sD 2 2 22]
def r156_18:LA:=[oM 24 0,bK 25 .gtr 24 524288,oM 23 25]
def r156_21:LA:=[oM 26 0,oO 27 (.bin .sub 3 (kI 1048576) (.tmp 26)),oO 28 (.call 165 [.tmp 27]),oO 3 (.alloc [(cI 0),(cI 0)]),sD 2 3 28]
def r156_23:LA:=[fA 29 1 3,lD 30 29,fA 31 0 3,lD 32 31,oO 33 (.build [(cI 0),(cI 0)] [(0,1,(.tmp 30)),(1,1,(.tmp 32))]),sD 2 2 33]
def r156_25:LA:=[oM 34 0,oO 35 (.call 165 [.tmp 34]),sD 2 2 35]
def tr156:TG:=[tT 0 [0,2],tT 1 [0,2],tT 2 [0,2,9],tT 3 [2],tT 4 [0,2,16],tT 5 [2],tT 6 [0,2,23],tT 7 [2,3],tT 8 [2],tT 9 [2]]
def tl156:TG:=[]
def rs156:List AResV:=[.cell 2 true 2]
def pr156_2_0:PT (List RV):=pRs [pR true [rD (dI .i64),rD (dI .i64)]]
def ur156_2_0 {β:Type}(g:List RV->β):Int->Int->β:=pr156_2_0.unc g
def E156_2g (a:Tf139_0)(b:Tf165_0):EnvK:=EnvK.of [⟨139,nt139,[⟨pa139_0,Fn139_0 a⟩]⟩,⟨165,nt165,[⟨pa165_0,Fn165_0 b⟩]⟩] noSeq
def E156_2:EnvK:=E156_2g f139_0 f165_0
theorem eo156_2:E156_2.Ok Pg:=EnvK.of_ok noSeq_ok ⟨⟨io139_0,trivial⟩,⟨io165_0,trivial⟩,trivial⟩
abbrev Tf156_2:Type 1:=(α:Type)->Int->(Int->Int->Op α)->Op α
def f156_2g (d:Tf139_0)(c:Tf165_0)(α:Type)(a:Int)(k1:Int->Int->Op α):Op α:=
 d α a 4194304
 (fun b=>cK (decide (2097152<=(w64 (a - (w64 (4194304*b))))))
 (none)
 (cK (decide (1048576<=(w64 (a - (w64 (4194304*b))))))
 (none)
 (cK (decide (524288 < (w64 (a - (w64 (4194304*b))))))
 (c α (w64 (1048576 - (w64 (a - (w64 (4194304*b))))))
 (fun e g=>k1 g e))
 (c α (w64 (a - (w64 (4194304*b))))
 (fun h i=>k1 h i)))))
def f156_2 (α:Type)(a:Int)(k1:Int->Int->Op α):Op α:=f156_2g f139_0 f165_0 α a k1
def pa156_2:PT (List DV):=pA [vI]
def Fn156_2 (v:Tf156_2)(α:Type)(k:RT α):Int->Op α:=fun a=>v α a (fun b c=>ur156_2_0 k b c)
def cm156_2g:MCode:=(.seq (.region r156_2 [] (tO [0,2])) (.seq (.region r156_4 [] (tO [0,2])) (.seq (.block 0 (.seq (.region r156_8 [] (tO [0,2,9])) (.cond (.tmp 9) (.seq (.region r156_11 [] (tO [2])) .ret) (.seq (.region r156_13 [] (tO [0,2,16])) (.cond (.tmp 16) (.seq (.region r156_16 [] (tO [2])) .ret) (.seq (.region r156_18 [] (tO [0,2,23])) (.cond (.tmp 23) (.seq (.region r156_21 [] (tO [2,3])) (.seq (.region r156_23 [] (tO [2])) .ret)) .skip))))))) (.seq (.region r156_25 [] (tO [2])) .ret))))
def cm156_2:MCode:=cm156_2g
theorem gm156_2:cm156_2.Good Pg E156_2 sh156:=⟨trivial,trivial,⟨trivial,⟨trivial,trivial⟩,trivial,⟨trivial,trivial⟩,trivial,⟨trivial,trivial,trivial⟩,trivial⟩,trivial,trivial⟩
theorem fm156_2g (a:Tf139_0)(b:Tf165_0)(α:Type)(k:RT α):Fn156_2 (f156_2g a b) α k=pa156_2.unc fun ds=>fnM Pg (E156_2g a b) sh156 (cm156_2g ) rs156 k ds:=by kernel_rfl
theorem fm156_2:∀ (α:Type) (k:RT α),Fn156_2 f156_2 α k=pa156_2.unc fun ds=>fnM Pg E156_2 sh156 cm156_2 rs156 k ds:=fm156_2g f139_0 f165_0
theorem is156:FnIs Pg 156 nt156 tr156 tl156 cm156_2.erase rs156:=⟨Tryz.f156,Tryz.func156,rfl,by kernel_rfl,by kernel_rfl,by kernel_rfl⟩
theorem io156_2:InstOk Pg 156 nt156 ⟨pa156_2,Fn156_2 f156_2⟩:=inst_ok eo156_2 followsTry is156 ⟨⟨sh156,cm156_2,by kernel_rfl,gm156_2,fm156_2⟩⟩
def pr156_1_0:PT (List RV):=pRs [pR true [rD (dI .i64),rD (dI .i64)]]
def ur156_1_0 {β:Type}(g:List RV->β):Int->Int->β:=pr156_1_0.unc g
def E156_1g (a:Tf139_0)(b:Tf156_2)(c:Tf164_0)(d:Tf165_0):EnvK:=EnvK.of [⟨139,nt139,[⟨pa139_0,Fn139_0 a⟩]⟩,⟨156,nt156,[⟨pa156_2,Fn156_2 b⟩]⟩,⟨164,nt164,[⟨pa164_0,Fn164_0 c⟩]⟩,⟨165,nt165,[⟨pa165_0,Fn165_0 d⟩]⟩] noSeq
def E156_1:EnvK:=E156_1g f139_0 f156_2 f164_0 f165_0
theorem eo156_1:E156_1.Ok Pg:=EnvK.of_ok noSeq_ok ⟨⟨io139_0,trivial⟩,⟨io156_2,trivial⟩,⟨io164_0,trivial⟩,⟨io165_0,trivial⟩,trivial⟩
abbrev Tf156_1:Type 1:=(α:Type)->Int->(Int->Int->Op α)->Op α
def f156_1g (g:Tf139_0)(c:Tf156_2)(d:Tf164_0)(e:Tf165_0)(α:Type)(a:Int)(k1:Int->Int->Op α):Op α:=
 g α a 4194304
 (fun b=>cK (decide (2097152<=(w64 (a - (w64 (4194304*b))))))
 (c α (w64 ((w64 (a - (w64 (4194304*b)))) - 2097152))
 (fun h i=>d α h i 2
 (fun j l=>k1 j l)))
 (cK (decide (1048576<=(w64 (a - (w64 (4194304*b))))))
 (c α (w64 ((w64 (a - (w64 (4194304*b)))) - 1048576))
 (fun m o=>d α m o 1
 (fun p q=>k1 p q)))
 (cK (decide (524288 < (w64 (a - (w64 (4194304*b))))))
 (e α (w64 (1048576 - (w64 (a - (w64 (4194304*b))))))
 (fun r s=>k1 s r))
 (e α (w64 (a - (w64 (4194304*b))))
 (fun t w=>k1 t w)))))
def f156_1 (α:Type)(a:Int)(k1:Int->Int->Op α):Op α:=f156_1g f139_0 f156_2 f164_0 f165_0 α a k1
def pa156_1:PT (List DV):=pA [vI]
def Fn156_1 (v:Tf156_1)(α:Type)(k:RT α):Int->Op α:=fun a=>v α a (fun b c=>ur156_1_0 k b c)
def cm156_1g:MCode:=(.seq (.region r156_2 [] (tO [0,2])) (.seq (.region r156_4 [] (tO [0,2])) (.seq (.block 0 (.seq (.region r156_8 [] (tO [0,2,9])) (.cond (.tmp 9) (.seq (.region r156_11 [] (tO [2])) .ret) (.seq (.region r156_13 [] (tO [0,2,16])) (.cond (.tmp 16) (.seq (.region r156_16 [] (tO [2])) .ret) (.seq (.region r156_18 [] (tO [0,2,23])) (.cond (.tmp 23) (.seq (.region r156_21 [] (tO [2,3])) (.seq (.region r156_23 [] (tO [2])) .ret)) .skip))))))) (.seq (.region r156_25 [] (tO [2])) .ret))))
def cm156_1:MCode:=cm156_1g
theorem gm156_1:cm156_1.Good Pg E156_1 sh156:=⟨trivial,trivial,⟨trivial,⟨trivial,trivial⟩,trivial,⟨trivial,trivial⟩,trivial,⟨trivial,trivial,trivial⟩,trivial⟩,trivial,trivial⟩
theorem fm156_1g (a:Tf139_0)(b:Tf156_2)(c:Tf164_0)(d:Tf165_0)(α:Type)(k:RT α):Fn156_1 (f156_1g a b c d) α k=pa156_1.unc fun ds=>fnM Pg (E156_1g a b c d) sh156 (cm156_1g ) rs156 k ds:=by kernel_rfl
theorem fm156_1:∀ (α:Type) (k:RT α),Fn156_1 f156_1 α k=pa156_1.unc fun ds=>fnM Pg E156_1 sh156 cm156_1 rs156 k ds:=fm156_1g f139_0 f156_2 f164_0 f165_0
theorem io156_1:InstOk Pg 156 nt156 ⟨pa156_1,Fn156_1 f156_1⟩:=inst_ok eo156_1 followsTry is156 ⟨⟨sh156,cm156_1,by kernel_rfl,gm156_1,fm156_1⟩⟩
def pr156_0_0:PT (List RV):=pRs [pR true [rD (dI .i64),rD (dI .i64)]]
def ur156_0_0 {β:Type}(g:List RV->β):Int->Int->β:=pr156_0_0.unc g
def E156_0g (a:Tf139_0)(b:Tf156_1)(c:Tf164_0)(d:Tf165_0):EnvK:=EnvK.of [⟨139,nt139,[⟨pa139_0,Fn139_0 a⟩]⟩,⟨156,nt156,[⟨pa156_1,Fn156_1 b⟩]⟩,⟨164,nt164,[⟨pa164_0,Fn164_0 c⟩]⟩,⟨165,nt165,[⟨pa165_0,Fn165_0 d⟩]⟩] noSeq
def E156_0:EnvK:=E156_0g f139_0 f156_1 f164_0 f165_0
theorem eo156_0:E156_0.Ok Pg:=EnvK.of_ok noSeq_ok ⟨⟨io139_0,trivial⟩,⟨io156_1,trivial⟩,⟨io164_0,trivial⟩,⟨io165_0,trivial⟩,trivial⟩
abbrev Tf156_0:Type 1:=(α:Type)->Int->(Int->Int->Op α)->Op α
def f156_0g (g:Tf139_0)(c:Tf156_1)(d:Tf164_0)(e:Tf165_0)(α:Type)(a:Int)(k1:Int->Int->Op α):Op α:=
 g α a 4194304
 (fun b=>cK (decide (2097152<=(w64 (a - (w64 (4194304*b))))))
 (c α (w64 ((w64 (a - (w64 (4194304*b)))) - 2097152))
 (fun h i=>d α h i 2
 (fun j l=>k1 j l)))
 (cK (decide (1048576<=(w64 (a - (w64 (4194304*b))))))
 (c α (w64 ((w64 (a - (w64 (4194304*b)))) - 1048576))
 (fun m o=>d α m o 1
 (fun p q=>k1 p q)))
 (cK (decide (524288 < (w64 (a - (w64 (4194304*b))))))
 (e α (w64 (1048576 - (w64 (a - (w64 (4194304*b))))))
 (fun r s=>k1 s r))
 (e α (w64 (a - (w64 (4194304*b))))
 (fun t w=>k1 t w)))))
def f156_0 (α:Type)(a:Int)(k1:Int->Int->Op α):Op α:=f156_0g f139_0 f156_1 f164_0 f165_0 α a k1
def pa156_0:PT (List DV):=pA [vI]
def Fn156_0 (v:Tf156_0)(α:Type)(k:RT α):Int->Op α:=fun a=>v α a (fun b c=>ur156_0_0 k b c)
def cm156_0g:MCode:=(.seq (.region r156_2 [] (tO [0,2])) (.seq (.region r156_4 [] (tO [0,2])) (.seq (.block 0 (.seq (.region r156_8 [] (tO [0,2,9])) (.cond (.tmp 9) (.seq (.region r156_11 [] (tO [2])) .ret) (.seq (.region r156_13 [] (tO [0,2,16])) (.cond (.tmp 16) (.seq (.region r156_16 [] (tO [2])) .ret) (.seq (.region r156_18 [] (tO [0,2,23])) (.cond (.tmp 23) (.seq (.region r156_21 [] (tO [2,3])) (.seq (.region r156_23 [] (tO [2])) .ret)) .skip))))))) (.seq (.region r156_25 [] (tO [2])) .ret))))
def cm156_0:MCode:=cm156_0g
theorem gm156_0:cm156_0.Good Pg E156_0 sh156:=⟨trivial,trivial,⟨trivial,⟨trivial,trivial⟩,trivial,⟨trivial,trivial⟩,trivial,⟨trivial,trivial,trivial⟩,trivial⟩,trivial,trivial⟩
theorem fm156_0g (a:Tf139_0)(b:Tf156_1)(c:Tf164_0)(d:Tf165_0)(α:Type)(k:RT α):Fn156_0 (f156_0g a b c d) α k=pa156_0.unc fun ds=>fnM Pg (E156_0g a b c d) sh156 (cm156_0g ) rs156 k ds:=by kernel_rfl
theorem fm156_0:∀ (α:Type) (k:RT α),Fn156_0 f156_0 α k=pa156_0.unc fun ds=>fnM Pg E156_0 sh156 cm156_0 rs156 k ds:=fm156_0g f139_0 f156_1 f164_0 f165_0
theorem io156_0:InstOk Pg 156 nt156 ⟨pa156_0,Fn156_0 f156_0⟩:=inst_ok eo156_0 followsTry is156 ⟨⟨sh156,cm156_0,by kernel_rfl,gm156_0,fm156_0⟩⟩
abbrev nt106:Nat:=20
def sh106:SG:=[]
def r106_2:LA:=[oO 4 (.alloc (zI 3)),mK 5 0]
def r106_5:LA:=[oM 6 0,oO 7 (.call 57 [(.tmp 6),(kI (-1000000000)),(kI 1000000000)]),oO 8 (.pure (oB (.unOp .not 4 (.tmp 7)) 4)),oM 9 8,oG 10 (.mv (.tmp 1)) 9 false,oG 11 (.call 57 [(.tmp 10),(kI 1),(kI 1000000000)]) 9 false,oG 12 (.pure (oB (.unOp .not 4 (.tmp 11)) 4)) 9 false,oO 13 (.pick (.tmp 9) (.const (.bool true)) (.tmp 12))]
def r106_8:LA:=[oO 14 (.build (zI 3) []),sD 3 4 14,mK 5 2]
def r106_10:LA:=[oM 15 0,oM 16 1,oO 17 (.call 140 [(.tmp 15),(.tmp 16)]),oO 18 (.extract 0 (.tmp 17)),oO 19 (.extract 1 (.tmp 17)),sD 3 4 18,oM 5 19]
def tr106:TG:=[tT 0 [0,1,4],tT 1 [0,1,4,13],tT 2 [4,5],tT 3 [4,5]]
def tl106:TG:=[]
def rs106:List AResV:=[.cell 4 true 3,.tmp 5]
def pr106_0_0:PT (List RV):=pRs [pR true [rD (dI .i64),rD (dI .i64),rD (dI .i64)],wI]
def ur106_0_0 {β:Type}(g:List RV->β):I4 β:=pr106_0_0.unc g
def E106_0g (a:Tf57_0)(b:Tf140_0):EnvK:=EnvK.of [⟨57,nt57,[⟨pa57_0,Fn57_0 a⟩]⟩,⟨140,nt140,[⟨pa140_0,Fn140_0 b⟩]⟩] noSeq
def E106_0:EnvK:=E106_0g f57_0 f140_0
theorem eo106_0:E106_0.Ok Pg:=EnvK.of_ok noSeq_ok ⟨⟨io57_0,trivial⟩,⟨io140_0,trivial⟩,trivial⟩
abbrev Tf106_0:Type 1:=(α:Type)->Int->Int->(I4 (Op α))->Op α
def f106_0g (d:Tf140_0)(a:Tf57_0)(α:Type)(b c:Int)(k1:I4 (Op α)):Op α:=
 a α b (-1000000000) 1000000000
 (fun e=>cK (!e)
 (k1 0 0 0 2)
 (a α c 1 1000000000
 (fun g=>cK (!g)
 (k1 0 0 0 2)
 (d α b c
 (fun h i j l=>k1 h i j l)))))
def f106_0 (α:Type)(a b:Int)(k1:I4 (Op α)):Op α:=f106_0g f140_0 f57_0 α a b k1
def pa106_0:PT (List DV):=pA [vI,vI]
def Fn106_0 (v:Tf106_0)(α:Type)(k:RT α):Int->Int->Op α:=fun a b=>v α a b (fun c d e g=>ur106_0_0 k c d e g)
def cm106_0g:MCode:=(.seq (.region r106_2 [] (tO [0,1,4])) (.seq (.seq (.region r106_5 [] (tO [0,1,4,13])) (.cond (.tmp 13) (.seq (.region r106_8 [] (tO [4,5])) .ret) .skip)) (.seq (.region r106_10 [] (tO [4,5])) .ret)))
def cm106_0:MCode:=cm106_0g
theorem gm106_0:cm106_0.Good Pg E106_0 sh106:=⟨trivial,⟨trivial,⟨trivial,trivial⟩,trivial⟩,trivial,trivial⟩
theorem fm106_0g (a:Tf57_0)(b:Tf140_0)(α:Type)(k:RT α):Fn106_0 (f106_0g b a) α k=pa106_0.unc fun ds=>fnM Pg (E106_0g a b) sh106 (cm106_0g ) rs106 k ds:=by kernel_rfl
theorem fm106_0:∀ (α:Type) (k:RT α),Fn106_0 f106_0 α k=pa106_0.unc fun ds=>fnM Pg E106_0 sh106 cm106_0 rs106 k ds:=fm106_0g f57_0 f140_0
theorem is106:FnIs Pg 106 nt106 tr106 tl106 cm106_0.erase rs106:=⟨Tryz.f106,Tryz.func106,rfl,by kernel_rfl,by kernel_rfl,by kernel_rfl⟩
theorem io106_0:InstOk Pg 106 nt106 ⟨pa106_0,Fn106_0 f106_0⟩:=inst_ok eo106_0 followsTry is106 ⟨⟨sh106,cm106_0,by kernel_rfl,gm106_0,fm106_0⟩⟩
abbrev nt145:Nat:=12
def sh145:SG:=[(7,iS 3),(8,iS 3)]
def r145_2:LA:=[oO 3 (.box (.tmp 0)),oO 4 (.alloc (zI 3)),mK 5 0]
def r145_4:LA:=[lD 6 1,lA 7 3 2,lA 8 3 3,oO 9 (.calld (.tmp 6) [(.tmp 7),(.tmp 8)]),oO 10 (.extract 0 (.tmp 9)),oO 11 (.extract 1 (.tmp 9)),sD 3 4 10,oM 5 11]
def tr145:TG:=[tT 0 [1,2,3,4],tT 1 [4,5]]
def tl145:TG:=[]
def rs145:List AResV:=[.cell 4 true 3,.tmp 5]
def pr145_0_0:PT (List RV):=pRs [pR true [rD (dI .i64),rD (dI .i64),rD (dI .i64)],wI]
def ur145_0_0 {β:Type}(g:List RV->β):I4 β:=pr145_0_0.unc g
def E145_0g (a:Tf154_0):EnvK:=EnvK.of [⟨154,nt154,[⟨pa154_0,Fn154_0 a⟩]⟩] noSeq
def E145_0:EnvK:=E145_0g f154_0
theorem eo145_0:E145_0.Ok Pg:=EnvK.of_ok noSeq_ok ⟨⟨io154_0,trivial⟩,trivial⟩
abbrev Tf145_0:Type 1:=(α:Type)->Int->Int->Int->Int->Int->Int->(Int->Int->Int->Op α)->Op α
def f145_0g (a:Tf154_0)(α:Type)(b c d e g h:Int)(k1:Int->Int->Int->Op α):Op α:=
 a α e g h b c d
 (fun i j l=>k1 i j l)
def f145_0 (α:Type)(a b c d e g:Int)(k1:Int->Int->Int->Op α):Op α:=f145_0g f154_0 α a b c d e g k1
def pa145_0:PT (List DV):=pA [pV true [(dI .i64),(dI .i64),(dI .i64)],pV false [(dP [(dFn 154 [])] 0)],pV false [(dP [(dI .i64),(dI .i64),(dI .i64)] 0)]]
def Fn145_0 (v:Tf145_0)(α:Type)(k:RT α):I6 (Op α):=fun a b c d e g=>v α a b c d e g (fun h i j=>ur145_0_0 k h i j 0)
def cm145_0g:MCode:=(.seq (.region r145_2 [] (tO [1,2,3,4])) (.seq (.region r145_4 [] (tO [4,5])) .ret))
def cm145_0:MCode:=cm145_0g
theorem gm145_0:cm145_0.Good Pg E145_0 sh145:=⟨trivial,trivial,trivial⟩
theorem fm145_0g (a:Tf154_0)(α:Type)(k:RT α):Fn145_0 (f145_0g a) α k=pa145_0.unc fun ds=>fnM Pg (E145_0g a) sh145 (cm145_0g ) rs145 k ds:=by kernel_rfl
theorem fm145_0:∀ (α:Type) (k:RT α),Fn145_0 f145_0 α k=pa145_0.unc fun ds=>fnM Pg E145_0 sh145 cm145_0 rs145 k ds:=fm145_0g f154_0
theorem is145:FnIs Pg 145 nt145 tr145 tl145 cm145_0.erase rs145:=⟨Tryz.f145,Tryz.func145,rfl,by kernel_rfl,by kernel_rfl,by kernel_rfl⟩
theorem io145_0:InstOk Pg 145 nt145 ⟨pa145_0,Fn145_0 f145_0⟩:=inst_ok eo145_0 followsTry is145 ⟨⟨sh145,cm145_0,by kernel_rfl,gm145_0,fm145_0⟩⟩
def pr145_1_0:PT (List RV):=pRs [pR true [rD (dI .i64),rD (dI .i64),rD (dI .i64)],wI]
def ur145_1_0 {β:Type}(g:List RV->β):I4 β:=pr145_1_0.unc g
def E145_1g (a:Tf115_0):EnvK:=EnvK.of [⟨115,nt115,[⟨pa115_0,Fn115_0 a⟩]⟩] noSeq
def E145_1:EnvK:=E145_1g f115_0
theorem eo145_1:E145_1.Ok Pg:=EnvK.of_ok noSeq_ok ⟨⟨io115_0,trivial⟩,trivial⟩
abbrev Tf145_1:Type 1:=(α:Type)->Int->Int->Int->Int->Int->Int->(Int->Int->Int->Op α)->Op α
def f145_1g (a:Tf115_0)(α:Type)(b c d e g h:Int)(k1:Int->Int->Int->Op α):Op α:=
 a α e g h b c d
 (fun i j l=>k1 i j l)
def f145_1 (α:Type)(a b c d e g:Int)(k1:Int->Int->Int->Op α):Op α:=f145_1g f115_0 α a b c d e g k1
def pa145_1:PT (List DV):=pA [pV true [(dI .i64),(dI .i64),(dI .i64)],pV false [(dP [(dFn 115 [])] 0)],pV false [(dP [(dI .i64),(dI .i64),(dI .i64)] 0)]]
def Fn145_1 (v:Tf145_1)(α:Type)(k:RT α):I6 (Op α):=fun a b c d e g=>v α a b c d e g (fun h i j=>ur145_1_0 k h i j 0)
def cm145_1g:MCode:=(.seq (.region r145_2 [] (tO [1,2,3,4])) (.seq (.region r145_4 [] (tO [4,5])) .ret))
def cm145_1:MCode:=cm145_1g
theorem gm145_1:cm145_1.Good Pg E145_1 sh145:=⟨trivial,trivial,trivial⟩
theorem fm145_1g (a:Tf115_0)(α:Type)(k:RT α):Fn145_1 (f145_1g a) α k=pa145_1.unc fun ds=>fnM Pg (E145_1g a) sh145 (cm145_1g ) rs145 k ds:=by kernel_rfl
theorem fm145_1:∀ (α:Type) (k:RT α),Fn145_1 f145_1 α k=pa145_1.unc fun ds=>fnM Pg E145_1 sh145 cm145_1 rs145 k ds:=fm145_1g f115_0
theorem io145_1:InstOk Pg 145 nt145 ⟨pa145_1,Fn145_1 f145_1⟩:=inst_ok eo145_1 followsTry is145 ⟨⟨sh145,cm145_1,by kernel_rfl,gm145_1,fm145_1⟩⟩
def pr145_2_0:PT (List RV):=pRs [pR true [rD (dI .i64),rD (dI .i64),rD (dI .i64)],wI]
def ur145_2_0 {β:Type}(g:List RV->β):I4 β:=pr145_2_0.unc g
def E145_2g (a:Tf122_0):EnvK:=EnvK.of [⟨122,nt122,[⟨pa122_0,Fn122_0 a⟩]⟩] noSeq
def E145_2:EnvK:=E145_2g f122_0
theorem eo145_2:E145_2.Ok Pg:=EnvK.of_ok noSeq_ok ⟨⟨io122_0,trivial⟩,trivial⟩
abbrev Tf145_2:Type 1:=(α:Type)->Int->Int->Int->Int->Int->Int->(Int->Int->Int->Op α)->Op α
def f145_2g (a:Tf122_0)(α:Type)(b c d e g h:Int)(k1:Int->Int->Int->Op α):Op α:=
 a α e g h b c d
 (fun i j l=>k1 i j l)
def f145_2 (α:Type)(a b c d e g:Int)(k1:Int->Int->Int->Op α):Op α:=f145_2g f122_0 α a b c d e g k1
def pa145_2:PT (List DV):=pA [pV true [(dI .i64),(dI .i64),(dI .i64)],pV false [(dP [(dFn 122 [])] 0)],pV false [(dP [(dI .i64),(dI .i64),(dI .i64)] 0)]]
def Fn145_2 (v:Tf145_2)(α:Type)(k:RT α):I6 (Op α):=fun a b c d e g=>v α a b c d e g (fun h i j=>ur145_2_0 k h i j 0)
def cm145_2g:MCode:=(.seq (.region r145_2 [] (tO [1,2,3,4])) (.seq (.region r145_4 [] (tO [4,5])) .ret))
def cm145_2:MCode:=cm145_2g
theorem gm145_2:cm145_2.Good Pg E145_2 sh145:=⟨trivial,trivial,trivial⟩
theorem fm145_2g (a:Tf122_0)(α:Type)(k:RT α):Fn145_2 (f145_2g a) α k=pa145_2.unc fun ds=>fnM Pg (E145_2g a) sh145 (cm145_2g ) rs145 k ds:=by kernel_rfl
theorem fm145_2:∀ (α:Type) (k:RT α),Fn145_2 f145_2 α k=pa145_2.unc fun ds=>fnM Pg E145_2 sh145 cm145_2 rs145 k ds:=fm145_2g f122_0
theorem io145_2:InstOk Pg 145 nt145 ⟨pa145_2,Fn145_2 f145_2⟩:=inst_ok eo145_2 followsTry is145 ⟨⟨sh145,cm145_2,by kernel_rfl,gm145_2,fm145_2⟩⟩
abbrev nt44:Nat:=31
def sh44:SG:=[(10,[.cpx .f64,.int .i64]),(25,iS 2),(27,iS 2),(29,iT)]
def r44_2:LA:=[oO 2 (.box (.tmp 0)),oO 4 (.mv (.const (.bool false))),mK 5 0]
def r44_4:LA:=[lA 10 2 2,oO 11 (.call 94 [.tmp 10]),oM 9 11,oO 12 (.extract 0 (.tmp 9)),oO 13 (.extract 1 (.tmp 9)),oO 6 (.alloc (zI 3)),sD 3 6 12,oM 7 13]
def r44_7:LA:=[oM 14 7,oO 15 (.bin .neq 26 (.tmp 14) (kI 0))]
def r44_10:LA:=[oM 16 7,oO 4 (.mv (.const (.bool false))),oM 5 16]
def r44_12:LA:=[oM 18 1,oO 19 (.call 95 [(.tmp 18),(.const (.float Go.FloatKind.f64 4728779608739020800))]),oM 17 19,oO 20 (.extract 0 (.tmp 17)),oO 21 (.extract 1 (.tmp 17)),oO 8 (.alloc [(cI 0),(cI 0)]),sD 2 8 20,oM 7 21]
def r44_15:LA:=[oM 22 7,oO 23 (.bin .neq 26 (.tmp 22) (kI 0))]
def r44_18:LA:=[oM 24 7,oO 4 (.mv (.const (.bool false))),oM 5 24]
def r44_20:LA:=[lA 25 2 8,fA 26 0 6,lA 27 2 26,fA 28 2 6,lD 29 28,oO 30 (.call 96 [(.tmp 25),(.tmp 27),(.tmp 29)]),oM 4 30,mK 5 0]
def tr44:TG:=[tT 0 [1,2],tT 1 [1,6,7],tT 2 [1,6,7,15],tT 3 [4,5],tT 4 [6,7,8],tT 5 [6,7,8,23],tT 6 [4,5],tT 7 [4,5]]
def tl44:TG:=[]
def rs44:List AResV:=[.tmp 4,.tmp 5]
def pr44_0_0:PT (List RV):=pRs [pR false [rD dB],wI]
def ur44_0_0 {β:Type}(g:List RV->β):Bool->Int->β:=pr44_0_0.unc g
def E44_0g (a:Tf94_0)(b:Tf95_0)(c:Tf96_0):EnvK:=EnvK.of [⟨94,nt94,[⟨pa94_0,Fn94_0 a⟩]⟩,⟨95,nt95,[⟨pa95_0,Fn95_0 b⟩]⟩,⟨96,nt96,[⟨pa96_0,Fn96_0 c⟩]⟩] noSeq
def E44_0:EnvK:=E44_0g f94_0 f95_0 f96_0
theorem eo44_0:E44_0.Ok Pg:=EnvK.of_ok noSeq_ok ⟨⟨io94_0,trivial⟩,⟨io95_0,trivial⟩,⟨io96_0,trivial⟩,trivial⟩
abbrev Tf44_0:Type 1:=(α:Type)->Nat->Nat->Int->Nat->Nat->(Bool->Int->Op α)->Op α
def f44_0g (d:Tf94_0)(e:Tf95_0)(g:Tf96_0)(α:Type)(h i:Nat)(a:Int)(j l:Nat)(k1:Bool->Int->Op α):Op α:=
 d α h i a
 (fun m o b=>cK (b != 0)
 (k1 false b)
 (e α j l 4728779608739020800
 (fun p q c=>cK (c != 0)
 (k1 false c)
 (g α p q m o a
 (fun r=>k1 r 0)))))
def f44_0 (α:Type)(a b:Nat)(c:Int)(d e:Nat)(k1:Bool->Int->Op α):Op α:=f44_0g f94_0 f95_0 f96_0 α a b c d e k1
def pa44_0:PT (List DV):=pA [pV true [(dX .f64),(dI .i64)],pV false [(dX .f64)]]
def Fn44_0 (v:Tf44_0)(α:Type)(k:RT α):Nat->Nat->Int->Nat->Nat->Op α:=fun a b c d e=>v α a b c d e (fun g h=>ur44_0_0 k g h)
def cm44_0g:MCode:=(.seq (.region r44_2 [] (tO [1,2])) (.seq (.region r44_4 [] (tO [1,6,7])) (.seq (.seq (.region r44_7 [] (tO [1,6,7,15])) (.cond (.tmp 15) (.seq (.region r44_10 [] (tO [4,5])) .ret) .skip)) (.seq (.region r44_12 [] (tO [6,7,8])) (.seq (.seq (.region r44_15 [] (tO [6,7,8,23])) (.cond (.tmp 23) (.seq (.region r44_18 [] (tO [4,5])) .ret) .skip)) (.seq (.region r44_20 [] (tO [4,5])) .ret))))))
def cm44_0:MCode:=cm44_0g
theorem gm44_0:cm44_0.Good Pg E44_0 sh44:=⟨trivial,trivial,⟨trivial,⟨trivial,trivial⟩,trivial⟩,trivial,⟨trivial,⟨trivial,trivial⟩,trivial⟩,trivial,trivial⟩
theorem fm44_0g (a:Tf94_0)(b:Tf95_0)(c:Tf96_0)(α:Type)(k:RT α):Fn44_0 (f44_0g a b c) α k=pa44_0.unc fun ds=>fnM Pg (E44_0g a b c) sh44 (cm44_0g ) rs44 k ds:=by kernel_rfl
theorem fm44_0:∀ (α:Type) (k:RT α),Fn44_0 f44_0 α k=pa44_0.unc fun ds=>fnM Pg E44_0 sh44 cm44_0 rs44 k ds:=fm44_0g f94_0 f95_0 f96_0
theorem is44:FnIs Pg 44 nt44 tr44 tl44 cm44_0.erase rs44:=⟨Tryz.f44,Tryz.func44,rfl,by kernel_rfl,by kernel_rfl,by kernel_rfl⟩
theorem io44_0:InstOk Pg 44 nt44 ⟨pa44_0,Fn44_0 f44_0⟩:=inst_ok eo44_0 followsTry is44 ⟨⟨sh44,cm44_0,by kernel_rfl,gm44_0,fm44_0⟩⟩
abbrev nt64:Nat:=11
def sh64:SG:=[(6,[.cpx .f64,.int .i64])]
def r64_2:LA:=[oO 1 (.box (.tmp 0)),mK 2 0]
def r64_4:LA:=[lA 6 2 1,oO 7 (.call 94 [.tmp 6]),oM 5 7,oO 8 (.extract 0 (.tmp 5)),oO 9 (.extract 1 (.tmp 5)),oO 3 (.alloc (zI 3)),sD 3 3 8,oM 4 9]
def r64_6:LA:=[oM 10 4,oM 2 10]
def tr64:TG:=[tT 0 [1],tT 1 [4],tT 2 [2]]
def tl64:TG:=[]
def rs64:List AResV:=[.tmp 2]
def pr64_0_0:PT (List RV):=pRs [wI]
def ur64_0_0 {β:Type}(g:List RV->β):Int->β:=pr64_0_0.unc g
def E64_0g (a:Tf94_0):EnvK:=EnvK.of [⟨94,nt94,[⟨pa94_0,Fn94_0 a⟩]⟩] noSeq
def E64_0:EnvK:=E64_0g f94_0
theorem eo64_0:E64_0.Ok Pg:=EnvK.of_ok noSeq_ok ⟨⟨io94_0,trivial⟩,trivial⟩
abbrev Tf64_0:Type 1:=(α:Type)->Nat->Nat->Int->(Int->Op α)->Op α
def f64_0g (a:Tf94_0)(α:Type)(b c:Nat)(d:Int)(k1:Int->Op α):Op α:=
 a α b c d
 (fun g h e=>k1 e)
def f64_0 (α:Type)(a b:Nat)(c:Int)(k1:Int->Op α):Op α:=f64_0g f94_0 α a b c k1
def pa64_0:PT (List DV):=pA [pV true [(dX .f64),(dI .i64)]]
def Fn64_0 (v:Tf64_0)(α:Type)(k:RT α):Nat->Nat->Int->Op α:=fun a b c=>v α a b c (fun d=>ur64_0_0 k d)
def cm64_0g:MCode:=(.seq (.region r64_2 [] (tO [1])) (.seq (.region r64_4 [] (tO [4])) (.seq (.region r64_6 [] (tO [2])) .ret)))
def cm64_0:MCode:=cm64_0g
theorem gm64_0:cm64_0.Good Pg E64_0 sh64:=⟨trivial,trivial,trivial,trivial⟩
theorem fm64_0g (a:Tf94_0)(α:Type)(k:RT α):Fn64_0 (f64_0g a) α k=pa64_0.unc fun ds=>fnM Pg (E64_0g a) sh64 (cm64_0g ) rs64 k ds:=by kernel_rfl
theorem fm64_0:∀ (α:Type) (k:RT α),Fn64_0 f64_0 α k=pa64_0.unc fun ds=>fnM Pg E64_0 sh64 cm64_0 rs64 k ds:=fm64_0g f94_0
theorem is64:FnIs Pg 64 nt64 tr64 tl64 cm64_0.erase rs64:=⟨Tryz.f64,Tryz.func64,rfl,by kernel_rfl,by kernel_rfl,by kernel_rfl⟩
theorem io64_0:InstOk Pg 64 nt64 ⟨pa64_0,Fn64_0 f64_0⟩:=inst_ok eo64_0 followsTry is64 ⟨⟨sh64,cm64_0,by kernel_rfl,gm64_0,fm64_0⟩⟩
abbrev nt138:Nat:=54
def sh138:SG:=[(21,iT),(27,iT),(50,iS 3)]
def r138_2:LA:=[oO 4 (.alloc [(.d (.v (.complex Go.FloatKind.f64 0 0))),(cI 0)]),mK 5 0]
def r138_4:LA:=[oM 13 0,oM 14 1,bT 15 .add 13 14,oO 16 (.call 139 [(.tmp 15),(kI 2)]),oM 6 16]
def r138_6:LA:=[oM 17 6,oO 18 (.call 156 [.tmp 17]),oO 7 (.alloc [(cI 0),(cI 0)]),sD 2 7 18]
def r138_8:LA:=[fA 20 0 7,lD 21 20,oO 22 (.call 117 [(.tmp 21),(kI 64)]),oM 19 22,oO 23 (.extract 0 (.tmp 19)),oO 24 (.extract 1 (.tmp 19)),oM 8 23,oM 9 24]
def r138_10:LA:=[fA 26 1 7,lD 27 26,oO 28 (.call 117 [(.tmp 27),(kI 64)]),oM 25 28,oO 29 (.extract 0 (.tmp 25)),oO 30 (.extract 1 (.tmp 25)),oM 10 29,oM 11 30]
def r138_12:LA:=[oM 31 8,oM 32 10,oO 33 (.build [(cI 0),(cI 0)] [(0,1,(.tmp 31)),(1,1,(.tmp 32))]),oM 34 1,oM 35 6,bT 36 .sub 34 35,oO 37 (.bin .mul 3 (kI 11) (.tmp 36)),oO 38 (.call 118 [(.tmp 37),(kI 7)]),oO 39 (.bin .add 3 (kI 2) (.tmp 38)),oO 40 (.build (zI 3) [(0,2,(.tmp 33)),(2,1,(.tmp 39))]),oO 12 (.alloc (zI 3)),sD 3 12 40]
def r138_15:LA:=[oM 41 0,oM 42 1,bT 43 .eql 41 42,oM 44 43,oG 45 (.mv (.tmp 0)) 44 true,oG 46 (.bin .rem 3 (.tmp 45) (kI 1048576)) 44 true,oG 47 (.bin .eql 3 (.tmp 46) (kI 0)) 44 true,oO 48 (.pick (.tmp 44) (.tmp 47) (.const (.bool false)))]
def r138_17:LA:=[fA 49 2 12,oD (.store 1 (.tmp 49) (kI 0))]
def r138_19:LA:=[lA 50 3 12,oO 51 (.call 157 [.tmp 50]),oO 52 (.extract 0 (.tmp 51)),oO 53 (.extract 1 (.tmp 51)),sD 2 4 52,oM 5 53]
def tr138:TG:=[tT 0 [0,1,4],tT 1 [0,1,4,6],tT 2 [0,1,4,6,7],tT 3 [0,1,4,6,7,8],tT 4 [0,1,4,6,8,10],tT 5 [0,1,4,12],tT 6 [4,12,48],tT 7 [4,12],tT 8 [4,5]]
def tl138:TG:=[]
def rs138:List AResV:=[.cell 4 true 2,.tmp 5]
def p138_0_0:PT St:=pS [sI 0,sI 1,sP 4,sP 12] [eBox 4 [(cD (dX .f64)),xI],eBox 12 (xs 3)]
def u138_0_0 {β:Type}(g:St->β):Int->Int->Nat->Nat->I4 β:=p138_0_0.unc g
def p138_0_1:PT St:=pS [sP 4,sP 12] [eBox 4 [(cD (dX .f64)),xI],eBox 12 (xs 3)]
def u138_0_1 {β:Type}(g:St->β):Nat->Nat->I4 β:=p138_0_1.unc g
def p138_0_2:PT St:=pS [sP 4,sP 12,sl 48 (aV false [(cD dB)])] [eBox 4 [(cD (dX .f64)),xI],eBox 12 (xs 3)]
def u138_0_2 {β:Type}(g:St->β):Bool->Nat->Nat->I4 β:=p138_0_2.unc g
def pr138_0_0:PT (List RV):=pRs [pR true [rD (dX .f64),rD (dI .i64)],wI]
def ur138_0_0 {β:Type}(g:List RV->β):Nat->Nat->Int->Int->β:=pr138_0_0.unc g
def E138_0g (a:Tf139_0)(b:Tf156_0)(c:Tf117_0)(d:Tf118_0)(e:Tf157_0):EnvK:=EnvK.of [⟨139,nt139,[⟨pa139_0,Fn139_0 a⟩]⟩,⟨156,nt156,[⟨pa156_0,Fn156_0 b⟩]⟩,⟨117,nt117,[⟨pa117_0,Fn117_0 c⟩]⟩,⟨118,nt118,[⟨pa118_0,Fn118_0 d⟩]⟩,⟨157,nt157,[⟨pa157_0,Fn157_0 e⟩]⟩] noSeq
def E138_0:EnvK:=E138_0g f139_0 f156_0 f117_0 f118_0 f157_0
theorem eo138_0:E138_0.Ok Pg:=EnvK.of_ok noSeq_ok ⟨⟨io139_0,trivial⟩,⟨io156_0,trivial⟩,⟨io117_0,trivial⟩,⟨io118_0,trivial⟩,⟨io157_0,trivial⟩,trivial⟩
def c138_0_13g:MCode:=(.seq (.region r138_15 [] (tO [4,12,48])) (.cond (.tmp 48) (.region r138_17 [] (tO [4,12])) .skip))
def c138_0_13:MCode:=c138_0_13g
theorem g138_0_13:c138_0_13.Good Pg E138_0 sh138:=⟨trivial,trivial,trivial⟩
abbrev TJ138_0_0:Type 1:=(α:Type)->Int->Int->(Op α)->(Bool->Op α)->Op α
def J138_0_0g (α:Type)(a b:Int)(k1:Op α)(k2:Bool->Op α):Op α:=
 cK (a == b)
 (cK ((Int.tmod a 1048576) == 0)
 (k1)
 (k2 ((Int.tmod a 1048576) == 0)))
 (k2 false)
def J138_0_0 (α:Type)(a b:Int)(k1:Op α)(k2:Bool->Op α):Op α:=J138_0_0g α a b k1 k2
def F138_0_0 (v:TJ138_0_0)(α:Type)(K:KT α):Int->Int->Nat->Nat->I4 (Op α):=fun g h a b c d e i=>v α g h (u138_0_1 (K .normal) a b c d e 0) (fun j=>u138_0_2 (K .normal) j a b c d e i)
theorem m138_0_0g (a:Tf139_0)(b:Tf156_0)(c:Tf117_0)(d:Tf118_0)(e:Tf157_0)(α:Type)(K:KT α):F138_0_0 (J138_0_0g ) α K=p138_0_0.unc fun σ=>runM Pg (E138_0g a b c d e) sh138 (c138_0_13g ) K σ:=by kernel_rfl
theorem m138_0_0:∀ (α:Type) (K:KT α),F138_0_0 J138_0_0 α K=p138_0_0.unc fun σ=>runM Pg E138_0 sh138 c138_0_13 K σ:=m138_0_0g f139_0 f156_0 f117_0 f118_0 f157_0
abbrev Tf138_0:Type 1:=(α:Type)->Int->Int->(Nat->Nat->Int->Int->Op α)->Op α
def f138_0g (i:TJ138_0_0)(b:Tf117_0)(j:Tf118_0)(l:Tf139_0)(m:Tf156_0)(c:Tf157_0)(α:Type)(d a:Int)(k1:Nat->Nat->Int->Int->Op α):Op α:=
 l α (w64 (d+a)) 2
 (fun e=>m α e
 (fun o p=>b α o 64
 (fun g D=>b α p 64
 (fun h F=>j α (w64 (11*(w64 (a - e)))) 7
 (fun q=>i α d a
 (c α g h 0
 (fun r s t w=>k1 r s t w))
 (fun G=>c α g h (w64 (2+q))
 (fun z A B C=>k1 z A B C)))))))
def f138_0 (α:Type)(a b:Int)(k1:Nat->Nat->Int->Int->Op α):Op α:=f138_0g J138_0_0 f117_0 f118_0 f139_0 f156_0 f157_0 α a b k1
def pa138_0:PT (List DV):=pA [vI,vI]
def Fn138_0 (v:Tf138_0)(α:Type)(k:RT α):Int->Int->Op α:=fun a b=>v α a b (fun c d e g=>ur138_0_0 k c d e g)
def cm138_0g (a:TJ138_0_0):MCode:=(.seq (.region r138_2 [] (tO [0,1,4])) (.seq (.region r138_4 [] (tO [0,1,4,6])) (.seq (.region r138_6 [] (tO [0,1,4,6,7])) (.seq (.region r138_8 [] (tO [0,1,4,6,7,8])) (.seq (.region r138_10 [] (tO [0,1,4,6,8,10])) (.seq (.region r138_12 [] (tO [0,1,4,12])) (.seq (.mark [⟨p138_0_0,F138_0_0 a⟩] c138_0_13) (.seq (.region r138_19 [] (tO [4,5])) .ret))))))))
def cm138_0:MCode:=cm138_0g J138_0_0
theorem gm138_0:cm138_0.Good Pg E138_0 sh138:=⟨trivial,trivial,trivial,trivial,trivial,trivial,⟨g138_0_13,m138_0_0,trivial⟩,trivial,trivial⟩
theorem fm138_0g (a:Tf139_0)(b:Tf156_0)(c:Tf117_0)(d:Tf118_0)(e:Tf157_0)(g:TJ138_0_0)(α:Type)(k:RT α):Fn138_0 (f138_0g g c d a b e) α k=pa138_0.unc fun ds=>fnM Pg (E138_0g a b c d e) sh138 (cm138_0g g) rs138 k ds:=by kernel_rfl
theorem fm138_0:∀ (α:Type) (k:RT α),Fn138_0 f138_0 α k=pa138_0.unc fun ds=>fnM Pg E138_0 sh138 cm138_0 rs138 k ds:=fm138_0g f139_0 f156_0 f117_0 f118_0 f157_0 J138_0_0
theorem is138:FnIs Pg 138 nt138 tr138 tl138 cm138_0.erase rs138:=⟨Tryz.f138,Tryz.func138,rfl,by kernel_rfl,by kernel_rfl,by kernel_rfl⟩
theorem io138_0:InstOk Pg 138 nt138 ⟨pa138_0,Fn138_0 f138_0⟩:=inst_ok eo138_0 followsTry is138 ⟨⟨sh138,cm138_0,by kernel_rfl,gm138_0,fm138_0⟩⟩
abbrev nt58:Nat:=14
def sh58:SG:=[(13,iS 3)]
def r58_2:LA:=[oO 4 (.alloc (zI 3))]
def r58_4:LA:=[oM 8 0,oM 9 1,oO 10 (.call 106 [(.tmp 8),(.tmp 9)]),oM 7 10,oO 11 (.extract 0 (.tmp 7)),oO 12 (.extract 1 (.tmp 7)),oO 5 (.alloc (zI 3)),sD 3 5 11,oM 6 12]
def r58_6:LA:=[lA 13 3 5,sD 3 4 13]
def tr58:TG:=[tT 0 [0,1,4],tT 1 [4,5],tT 2 [4]]
def tl58:TG:=[]
def rs58:List AResV:=[.cell 4 true 3]
def pr58_0_0:PT (List RV):=pRs [pR true [rD (dI .i64),rD (dI .i64),rD (dI .i64)]]
def ur58_0_0 {β:Type}(g:List RV->β):Int->Int->Int->β:=pr58_0_0.unc g
def E58_0g (a:Tf106_0):EnvK:=EnvK.of [⟨106,nt106,[⟨pa106_0,Fn106_0 a⟩]⟩] noSeq
def E58_0:EnvK:=E58_0g f106_0
theorem eo58_0:E58_0.Ok Pg:=EnvK.of_ok noSeq_ok ⟨⟨io106_0,trivial⟩,trivial⟩
abbrev Tf58_0:Type 1:=(α:Type)->Int->Int->(Int->Int->Int->Op α)->Op α
def f58_0g (a:Tf106_0)(α:Type)(b c:Int)(k1:Int->Int->Int->Op α):Op α:=
 a α b c
 (fun d e g h=>k1 d e g)
def f58_0 (α:Type)(a b:Int)(k1:Int->Int->Int->Op α):Op α:=f58_0g f106_0 α a b k1
def pa58_0:PT (List DV):=pA [vI,vI]
def Fn58_0 (v:Tf58_0)(α:Type)(k:RT α):Int->Int->Op α:=fun a b=>v α a b (fun c d e=>ur58_0_0 k c d e)
def cm58_0g:MCode:=(.seq (.region r58_2 [] (tO [0,1,4])) (.seq (.region r58_4 [] (tO [4,5])) (.seq (.region r58_6 [] (tO [4])) .ret)))
def cm58_0:MCode:=cm58_0g
theorem gm58_0:cm58_0.Good Pg E58_0 sh58:=⟨trivial,trivial,trivial,trivial⟩
theorem fm58_0g (a:Tf106_0)(α:Type)(k:RT α):Fn58_0 (f58_0g a) α k=pa58_0.unc fun ds=>fnM Pg (E58_0g a) sh58 (cm58_0g ) rs58 k ds:=by kernel_rfl
theorem fm58_0:∀ (α:Type) (k:RT α),Fn58_0 f58_0 α k=pa58_0.unc fun ds=>fnM Pg E58_0 sh58 cm58_0 rs58 k ds:=fm58_0g f106_0
theorem is58:FnIs Pg 58 nt58 tr58 tl58 cm58_0.erase rs58:=⟨Tryz.f58,Tryz.func58,rfl,by kernel_rfl,by kernel_rfl,by kernel_rfl⟩
theorem io58_0:InstOk Pg 58 nt58 ⟨pa58_0,Fn58_0 f58_0⟩:=inst_ok eo58_0 followsTry is58 ⟨⟨sh58,cm58_0,by kernel_rfl,gm58_0,fm58_0⟩⟩
abbrev nt144:Nat:=31
def sh144:SG:=[(9,[.cpx .f64,.int .i64]),(19,iS 3),(27,iS 3)]
def r144_2:LA:=[oO 2 (.box (.tmp 0)),oO 4 (.alloc [(.d (.v (.complex Go.FloatKind.f64 0 0))),(cI 0)]),mK 5 0]
def r144_4:LA:=[lA 9 2 2,oO 10 (.call 94 [.tmp 9]),oM 8 10,oO 11 (.extract 0 (.tmp 8)),oO 12 (.extract 1 (.tmp 8)),oO 6 (.alloc (zI 3)),sD 3 6 11,oM 7 12]
def r144_7:LA:=[oM 13 7,oO 14 (.bin .neq 26 (.tmp 13) (kI 0))]
def r144_10:LA:=[oO 15 (.build [(.d (.v (.complex Go.FloatKind.f64 0 0))),(cI 0)] []),oM 16 7,sD 2 4 15,oM 5 16]
def r144_13:LA:=[oM 18 1,lA 19 3 6,oO 20 (.calld (.tmp 18) [(.tmp 19)]),oM 17 20,oO 21 (.extract 0 (.tmp 17)),oO 22 (.extract 1 (.tmp 17)),sD 3 6 21,oM 7 22]
def r144_15:LA:=[oM 23 7,oO 24 (.bin .neq 26 (.tmp 23) (kI 0))]
def r144_18:LA:=[oO 25 (.build [(.d (.v (.complex Go.FloatKind.f64 0 0))),(cI 0)] []),oM 26 7,sD 2 4 25,oM 5 26]
def r144_20:LA:=[lA 27 3 6,oO 28 (.call 157 [.tmp 27]),oO 29 (.extract 0 (.tmp 28)),oO 30 (.extract 1 (.tmp 28)),sD 2 4 29,oM 5 30]
def tr144:TG:=[tT 0 [1,2,4],tT 1 [1,4,6,7],tT 2 [1,4,6,7,14],tT 3 [4,5],tT 4 [4,6,7],tT 5 [4,6,7,24],tT 6 [4,5],tT 7 [4,5]]
def tl144:TG:=[]
def rs144:List AResV:=[.cell 4 true 2,.tmp 5]
def pr144_0_0:PT (List RV):=pRs [pR true [rD (dX .f64),rD (dI .i64)],wI]
def ur144_0_0 {β:Type}(g:List RV->β):Nat->Nat->Int->Int->β:=pr144_0_0.unc g
def E144_0g (a:Tf94_0)(b:Tf145_0)(c:Tf157_0):EnvK:=EnvK.of [⟨94,nt94,[⟨pa94_0,Fn94_0 a⟩]⟩,⟨145,nt145,[⟨pa145_0,Fn145_0 b⟩]⟩,⟨157,nt157,[⟨pa157_0,Fn157_0 c⟩]⟩] noSeq
def E144_0:EnvK:=E144_0g f94_0 f145_0 f157_0
theorem eo144_0:E144_0.Ok Pg:=EnvK.of_ok noSeq_ok ⟨⟨io94_0,trivial⟩,⟨io145_0,trivial⟩,⟨io157_0,trivial⟩,trivial⟩
abbrev Tf144_0:Type 1:=(α:Type)->Nat->Nat->Int->Int->Int->Int->(Nat->Nat->Int->Int->Op α)->Op α
def f144_0g (c:Tf145_0)(d:Tf157_0)(e:Tf94_0)(α:Type)(g h:Nat)(a i j l:Int)(k1:Nat->Nat->Int->Int->Op α):Op α:=
 e α g h a
 (fun m o b=>cK (b != 0)
 (k1 0 0 0 b)
 (c α m o a i j l
 (fun p q r=>d α p q r
 (fun s t w z=>k1 s t w z))))
def f144_0 (α:Type)(a b:Nat)(c d e g:Int)(k1:Nat->Nat->Int->Int->Op α):Op α:=f144_0g f145_0 f157_0 f94_0 α a b c d e g k1
def pa144_0:PT (List DV):=pA [pV true [(dX .f64),(dI .i64)],pV false [(dFn 145 [(dP [(dFn 154 [])] 0),(dP [(dI .i64),(dI .i64),(dI .i64)] 0)])]]
def Fn144_0 (v:Tf144_0)(α:Type)(k:RT α):Nat->Nat->I4 (Op α):=fun a b c d e g=>v α a b c d e g (fun h i j l=>ur144_0_0 k h i j l)
def cm144_0g:MCode:=(.seq (.region r144_2 [] (tO [1,2,4])) (.seq (.region r144_4 [] (tO [1,4,6,7])) (.seq (.seq (.region r144_7 [] (tO [1,4,6,7,14])) (.cond (.tmp 14) (.seq (.region r144_10 [] (tO [4,5])) .ret) .skip)) (.seq (.seq (.region r144_13 [] (tO [4,6,7])) (.seq (.region r144_15 [] (tO [4,6,7,24])) (.cond (.tmp 24) (.seq (.region r144_18 [] (tO [4,5])) .ret) .skip))) (.seq (.region r144_20 [] (tO [4,5])) .ret)))))
def cm144_0:MCode:=cm144_0g
theorem gm144_0:cm144_0.Good Pg E144_0 sh144:=⟨trivial,trivial,⟨trivial,⟨trivial,trivial⟩,trivial⟩,⟨trivial,trivial,⟨trivial,trivial⟩,trivial⟩,trivial,trivial⟩
theorem fm144_0g (a:Tf94_0)(b:Tf145_0)(c:Tf157_0)(α:Type)(k:RT α):Fn144_0 (f144_0g b c a) α k=pa144_0.unc fun ds=>fnM Pg (E144_0g a b c) sh144 (cm144_0g ) rs144 k ds:=by kernel_rfl
theorem fm144_0:∀ (α:Type) (k:RT α),Fn144_0 f144_0 α k=pa144_0.unc fun ds=>fnM Pg E144_0 sh144 cm144_0 rs144 k ds:=fm144_0g f94_0 f145_0 f157_0
theorem is144:FnIs Pg 144 nt144 tr144 tl144 cm144_0.erase rs144:=⟨Tryz.f144,Tryz.func144,rfl,by kernel_rfl,by kernel_rfl,by kernel_rfl⟩
theorem io144_0:InstOk Pg 144 nt144 ⟨pa144_0,Fn144_0 f144_0⟩:=inst_ok eo144_0 followsTry is144 ⟨⟨sh144,cm144_0,by kernel_rfl,gm144_0,fm144_0⟩⟩
def pr144_1_0:PT (List RV):=pRs [pR true [rD (dX .f64),rD (dI .i64)],wI]
def ur144_1_0 {β:Type}(g:List RV->β):Nat->Nat->Int->Int->β:=pr144_1_0.unc g
def E144_1g (a:Tf94_0)(b:Tf145_1)(c:Tf157_0):EnvK:=EnvK.of [⟨94,nt94,[⟨pa94_0,Fn94_0 a⟩]⟩,⟨145,nt145,[⟨pa145_1,Fn145_1 b⟩]⟩,⟨157,nt157,[⟨pa157_0,Fn157_0 c⟩]⟩] noSeq
def E144_1:EnvK:=E144_1g f94_0 f145_1 f157_0
theorem eo144_1:E144_1.Ok Pg:=EnvK.of_ok noSeq_ok ⟨⟨io94_0,trivial⟩,⟨io145_1,trivial⟩,⟨io157_0,trivial⟩,trivial⟩
abbrev Tf144_1:Type 1:=(α:Type)->Nat->Nat->Int->Int->Int->Int->(Nat->Nat->Int->Int->Op α)->Op α
def f144_1g (c:Tf145_1)(d:Tf157_0)(e:Tf94_0)(α:Type)(g h:Nat)(a i j l:Int)(k1:Nat->Nat->Int->Int->Op α):Op α:=
 e α g h a
 (fun m o b=>cK (b != 0)
 (k1 0 0 0 b)
 (c α m o a i j l
 (fun p q r=>d α p q r
 (fun s t w z=>k1 s t w z))))
def f144_1 (α:Type)(a b:Nat)(c d e g:Int)(k1:Nat->Nat->Int->Int->Op α):Op α:=f144_1g f145_1 f157_0 f94_0 α a b c d e g k1
def pa144_1:PT (List DV):=pA [pV true [(dX .f64),(dI .i64)],pV false [(dFn 145 [(dP [(dFn 115 [])] 0),(dP [(dI .i64),(dI .i64),(dI .i64)] 0)])]]
def Fn144_1 (v:Tf144_1)(α:Type)(k:RT α):Nat->Nat->I4 (Op α):=fun a b c d e g=>v α a b c d e g (fun h i j l=>ur144_1_0 k h i j l)
def cm144_1g:MCode:=(.seq (.region r144_2 [] (tO [1,2,4])) (.seq (.region r144_4 [] (tO [1,4,6,7])) (.seq (.seq (.region r144_7 [] (tO [1,4,6,7,14])) (.cond (.tmp 14) (.seq (.region r144_10 [] (tO [4,5])) .ret) .skip)) (.seq (.seq (.region r144_13 [] (tO [4,6,7])) (.seq (.region r144_15 [] (tO [4,6,7,24])) (.cond (.tmp 24) (.seq (.region r144_18 [] (tO [4,5])) .ret) .skip))) (.seq (.region r144_20 [] (tO [4,5])) .ret)))))
def cm144_1:MCode:=cm144_1g
theorem gm144_1:cm144_1.Good Pg E144_1 sh144:=⟨trivial,trivial,⟨trivial,⟨trivial,trivial⟩,trivial⟩,⟨trivial,trivial,⟨trivial,trivial⟩,trivial⟩,trivial,trivial⟩
theorem fm144_1g (a:Tf94_0)(b:Tf145_1)(c:Tf157_0)(α:Type)(k:RT α):Fn144_1 (f144_1g b c a) α k=pa144_1.unc fun ds=>fnM Pg (E144_1g a b c) sh144 (cm144_1g ) rs144 k ds:=by kernel_rfl
theorem fm144_1:∀ (α:Type) (k:RT α),Fn144_1 f144_1 α k=pa144_1.unc fun ds=>fnM Pg E144_1 sh144 cm144_1 rs144 k ds:=fm144_1g f94_0 f145_1 f157_0
theorem io144_1:InstOk Pg 144 nt144 ⟨pa144_1,Fn144_1 f144_1⟩:=inst_ok eo144_1 followsTry is144 ⟨⟨sh144,cm144_1,by kernel_rfl,gm144_1,fm144_1⟩⟩
def pr144_2_0:PT (List RV):=pRs [pR true [rD (dX .f64),rD (dI .i64)],wI]
def ur144_2_0 {β:Type}(g:List RV->β):Nat->Nat->Int->Int->β:=pr144_2_0.unc g
def E144_2g (a:Tf94_0)(b:Tf145_2)(c:Tf157_0):EnvK:=EnvK.of [⟨94,nt94,[⟨pa94_0,Fn94_0 a⟩]⟩,⟨145,nt145,[⟨pa145_2,Fn145_2 b⟩]⟩,⟨157,nt157,[⟨pa157_0,Fn157_0 c⟩]⟩] noSeq
def E144_2:EnvK:=E144_2g f94_0 f145_2 f157_0
theorem eo144_2:E144_2.Ok Pg:=EnvK.of_ok noSeq_ok ⟨⟨io94_0,trivial⟩,⟨io145_2,trivial⟩,⟨io157_0,trivial⟩,trivial⟩
abbrev Tf144_2:Type 1:=(α:Type)->Nat->Nat->Int->Int->Int->Int->(Nat->Nat->Int->Int->Op α)->Op α
def f144_2g (c:Tf145_2)(d:Tf157_0)(e:Tf94_0)(α:Type)(g h:Nat)(a i j l:Int)(k1:Nat->Nat->Int->Int->Op α):Op α:=
 e α g h a
 (fun m o b=>cK (b != 0)
 (k1 0 0 0 b)
 (c α m o a i j l
 (fun p q r=>d α p q r
 (fun s t w z=>k1 s t w z))))
def f144_2 (α:Type)(a b:Nat)(c d e g:Int)(k1:Nat->Nat->Int->Int->Op α):Op α:=f144_2g f145_2 f157_0 f94_0 α a b c d e g k1
def pa144_2:PT (List DV):=pA [pV true [(dX .f64),(dI .i64)],pV false [(dFn 145 [(dP [(dFn 122 [])] 0),(dP [(dI .i64),(dI .i64),(dI .i64)] 0)])]]
def Fn144_2 (v:Tf144_2)(α:Type)(k:RT α):Nat->Nat->I4 (Op α):=fun a b c d e g=>v α a b c d e g (fun h i j l=>ur144_2_0 k h i j l)
def cm144_2g:MCode:=(.seq (.region r144_2 [] (tO [1,2,4])) (.seq (.region r144_4 [] (tO [1,4,6,7])) (.seq (.seq (.region r144_7 [] (tO [1,4,6,7,14])) (.cond (.tmp 14) (.seq (.region r144_10 [] (tO [4,5])) .ret) .skip)) (.seq (.seq (.region r144_13 [] (tO [4,6,7])) (.seq (.region r144_15 [] (tO [4,6,7,24])) (.cond (.tmp 24) (.seq (.region r144_18 [] (tO [4,5])) .ret) .skip))) (.seq (.region r144_20 [] (tO [4,5])) .ret)))))
def cm144_2:MCode:=cm144_2g
theorem gm144_2:cm144_2.Good Pg E144_2 sh144:=⟨trivial,trivial,⟨trivial,⟨trivial,trivial⟩,trivial⟩,⟨trivial,trivial,⟨trivial,trivial⟩,trivial⟩,trivial,trivial⟩
theorem fm144_2g (a:Tf94_0)(b:Tf145_2)(c:Tf157_0)(α:Type)(k:RT α):Fn144_2 (f144_2g b c a) α k=pa144_2.unc fun ds=>fnM Pg (E144_2g a b c) sh144 (cm144_2g ) rs144 k ds:=by kernel_rfl
theorem fm144_2:∀ (α:Type) (k:RT α),Fn144_2 f144_2 α k=pa144_2.unc fun ds=>fnM Pg E144_2 sh144 cm144_2 rs144 k ds:=fm144_2g f94_0 f145_2 f157_0
theorem io144_2:InstOk Pg 144 nt144 ⟨pa144_2,Fn144_2 f144_2⟩:=inst_ok eo144_2 followsTry is144 ⟨⟨sh144,cm144_2,by kernel_rfl,gm144_2,fm144_2⟩⟩
abbrev nt85:Nat:=11
def sh85:SG:=[(6,[.cpx .f64,.int .i64])]
def r85_2:LA:=[oO 1 (.box (.tmp 0)),oO 2 (.mv (.const (.bool false)))]
def r85_4:LA:=[lA 6 2 1,oO 7 (.call 44 [(.tmp 6),(.const (.complex Go.FloatKind.f64 0 0))]),oM 5 7,oO 8 (.extract 0 (.tmp 5)),oO 9 (.extract 1 (.tmp 5)),oM 3 8,oM 4 9]
def r85_6:LA:=[oM 10 3,oM 2 10]
def tr85:TG:=[tT 0 [1],tT 1 [3],tT 2 [2]]
def tl85:TG:=[]
def rs85:List AResV:=[.tmp 2]
def pr85_0_0:PT (List RV):=pRs [pR false [rD dB]]
def ur85_0_0 {β:Type}(g:List RV->β):Bool->β:=pr85_0_0.unc g
def E85_0g (a:Tf44_0):EnvK:=EnvK.of [⟨44,nt44,[⟨pa44_0,Fn44_0 a⟩]⟩] noSeq
def E85_0:EnvK:=E85_0g f44_0
theorem eo85_0:E85_0.Ok Pg:=EnvK.of_ok noSeq_ok ⟨⟨io44_0,trivial⟩,trivial⟩
abbrev Tf85_0:Type 1:=(α:Type)->Nat->Nat->Int->(Bool->Op α)->Op α
def f85_0g (a:Tf44_0)(α:Type)(b c:Nat)(d:Int)(k1:Bool->Op α):Op α:=
 a α b c d 0 0
 (fun e g=>k1 e)
def f85_0 (α:Type)(a b:Nat)(c:Int)(k1:Bool->Op α):Op α:=f85_0g f44_0 α a b c k1
def pa85_0:PT (List DV):=pA [pV true [(dX .f64),(dI .i64)]]
def Fn85_0 (v:Tf85_0)(α:Type)(k:RT α):Nat->Nat->Int->Op α:=fun a b c=>v α a b c (fun d=>ur85_0_0 k d)
def cm85_0g:MCode:=(.seq (.region r85_2 [] (tO [1])) (.seq (.region r85_4 [] (tO [3])) (.seq (.region r85_6 [] (tO [2])) .ret)))
def cm85_0:MCode:=cm85_0g
theorem gm85_0:cm85_0.Good Pg E85_0 sh85:=⟨trivial,trivial,trivial,trivial⟩
theorem fm85_0g (a:Tf44_0)(α:Type)(k:RT α):Fn85_0 (f85_0g a) α k=pa85_0.unc fun ds=>fnM Pg (E85_0g a) sh85 (cm85_0g ) rs85 k ds:=by kernel_rfl
theorem fm85_0:∀ (α:Type) (k:RT α),Fn85_0 f85_0 α k=pa85_0.unc fun ds=>fnM Pg E85_0 sh85 cm85_0 rs85 k ds:=fm85_0g f44_0
theorem is85:FnIs Pg 85 nt85 tr85 tl85 cm85_0.erase rs85:=⟨Tryz.f85,Tryz.func85,rfl,by kernel_rfl,by kernel_rfl,by kernel_rfl⟩
theorem io85_0:InstOk Pg 85 nt85 ⟨pa85_0,Fn85_0 f85_0⟩:=inst_ok eo85_0 followsTry is85 ⟨⟨sh85,cm85_0,by kernel_rfl,gm85_0,fm85_0⟩⟩
abbrev nt105:Nat:=26
def sh105:SG:=[]
def r105_2:LA:=[oO 4 (.alloc [(.d (.v (.complex Go.FloatKind.f64 0 0))),(cI 0)]),mK 5 0]
def r105_5:LA:=[oM 6 0,oO 7 (.call 137 [(.tmp 6),(kI 1000000000)]),oO 8 (.pure (oB (.unOp .not 4 (.tmp 7)) 4)),oM 9 8,oG 10 (.mv (.tmp 1)) 9 false,oG 11 (.call 127 [(.tmp 10),(kI 1),(kI 1000000000)]) 9 false,oG 12 (.pure (oB (.unOp .not 4 (.tmp 11)) 4)) 9 false,oO 13 (.pick (.tmp 9) (.const (.bool true)) (.tmp 12))]
def r105_8:LA:=[oO 14 (.build [(.d (.v (.complex Go.FloatKind.f64 0 0))),(cI 0)] []),sD 2 4 14,mK 5 2]
def r105_10:LA:=[oM 15 0,bK 16 .mul 15 4194304,oM 17 1,oO 18 (.call 139 [(.tmp 16),(.tmp 17)]),oM 19 0,bK 20 .mul 19 4194304,oM 21 1,oO 22 (.call 118 [(.tmp 20),(.tmp 21)]),oO 23 (.call 138 [(.tmp 18),(.tmp 22)]),oO 24 (.extract 0 (.tmp 23)),oO 25 (.extract 1 (.tmp 23)),sD 2 4 24,oM 5 25]
def tr105:TG:=[tT 0 [0,1,4],tT 1 [0,1,4,13],tT 2 [4,5],tT 3 [4,5]]
def tl105:TG:=[]
def rs105:List AResV:=[.cell 4 true 2,.tmp 5]
def pr105_0_0:PT (List RV):=pRs [pR true [rD (dX .f64),rD (dI .i64)],wI]
def ur105_0_0 {β:Type}(g:List RV->β):Nat->Nat->Int->Int->β:=pr105_0_0.unc g
def E105_0g (a:Tf137_0)(b:Tf127_0)(c:Tf139_0)(d:Tf118_0)(e:Tf138_0):EnvK:=EnvK.of [⟨137,nt137,[⟨pa137_0,Fn137_0 a⟩]⟩,⟨127,nt127,[⟨pa127_0,Fn127_0 b⟩]⟩,⟨139,nt139,[⟨pa139_0,Fn139_0 c⟩]⟩,⟨118,nt118,[⟨pa118_0,Fn118_0 d⟩]⟩,⟨138,nt138,[⟨pa138_0,Fn138_0 e⟩]⟩] noSeq
def E105_0:EnvK:=E105_0g f137_0 f127_0 f139_0 f118_0 f138_0
theorem eo105_0:E105_0.Ok Pg:=EnvK.of_ok noSeq_ok ⟨⟨io137_0,trivial⟩,⟨io127_0,trivial⟩,⟨io139_0,trivial⟩,⟨io118_0,trivial⟩,⟨io138_0,trivial⟩,trivial⟩
abbrev Tf105_0:Type 1:=(α:Type)->Int->Int->(Nat->Nat->Int->Int->Op α)->Op α
def f105_0g (c:Tf118_0)(d:Tf127_0)(e:Tf137_0)(g:Tf138_0)(h:Tf139_0)(α:Type)(a b:Int)(k1:Nat->Nat->Int->Int->Op α):Op α:=
 e α a 1000000000
 (fun i=>cK (!i)
 (k1 0 0 0 2)
 (d α b 1 1000000000
 (fun j=>cK (!j)
 (k1 0 0 0 2)
 (h α (w64 (a*4194304)) b
 (fun l=>c α (w64 (a*4194304)) b
 (fun m=>g α l m
 (fun o p q r=>k1 o p q r)))))))
def f105_0 (α:Type)(a b:Int)(k1:Nat->Nat->Int->Int->Op α):Op α:=f105_0g f118_0 f127_0 f137_0 f138_0 f139_0 α a b k1
def pa105_0:PT (List DV):=pA [vI,vI]
def Fn105_0 (v:Tf105_0)(α:Type)(k:RT α):Int->Int->Op α:=fun a b=>v α a b (fun c d e g=>ur105_0_0 k c d e g)
def cm105_0g:MCode:=(.seq (.region r105_2 [] (tO [0,1,4])) (.seq (.seq (.region r105_5 [] (tO [0,1,4,13])) (.cond (.tmp 13) (.seq (.region r105_8 [] (tO [4,5])) .ret) .skip)) (.seq (.region r105_10 [] (tO [4,5])) .ret)))
def cm105_0:MCode:=cm105_0g
theorem gm105_0:cm105_0.Good Pg E105_0 sh105:=⟨trivial,⟨trivial,⟨trivial,trivial⟩,trivial⟩,trivial,trivial⟩
theorem fm105_0g (a:Tf137_0)(b:Tf127_0)(c:Tf139_0)(d:Tf118_0)(e:Tf138_0)(α:Type)(k:RT α):Fn105_0 (f105_0g d b a e c) α k=pa105_0.unc fun ds=>fnM Pg (E105_0g a b c d e) sh105 (cm105_0g ) rs105 k ds:=by kernel_rfl
theorem fm105_0:∀ (α:Type) (k:RT α),Fn105_0 f105_0 α k=pa105_0.unc fun ds=>fnM Pg E105_0 sh105 cm105_0 rs105 k ds:=fm105_0g f137_0 f127_0 f139_0 f118_0 f138_0
theorem is105:FnIs Pg 105 nt105 tr105 tl105 cm105_0.erase rs105:=⟨Tryz.f105,Tryz.func105,rfl,by kernel_rfl,by kernel_rfl,by kernel_rfl⟩
theorem io105_0:InstOk Pg 105 nt105 ⟨pa105_0,Fn105_0 f105_0⟩:=inst_ok eo105_0 followsTry is105 ⟨⟨sh105,cm105_0,by kernel_rfl,gm105_0,fm105_0⟩⟩
abbrev nt90:Nat:=57
def sh90:SG:=[(29,iS 3),(30,iS 3),(44,iS 3),(45,iS 3),(53,iS 3)]
def r90_2:LA:=[oO 4 (.mv (.const (.slice none 0 0))),mK 5 0]
def r90_4:LA:=[oM 13 0,oO 14 (.len (.tmp 13)),oM 6 14]
def r90_6:LA:=[oO 7 (.mv (.const (.slice none 0 0)))]
def r90_9:LA:=[mK 8 0]
def td90_11:OT:=(some ⟨[0,1,6,7,8],true,[⟨false,7,0,20007,3⟩],[]⟩)
def r90_14:LA:=[oM 15 8,oM 16 6,bT 17 .lss 15 16]
def r90_19:LA:=[oO 20 (.build (zI 3) []),oO 9 (.alloc (zI 3)),sD 3 9 20]
def r90_22:LA:=[mK 10 0]
def td90_24:OT:=(some ⟨[0,1,6,7,8,9,10],true,[⟨false,7,0,20007,3⟩],[]⟩)
def r90_27:LA:=[oM 21 10,oM 22 6,bT 23 .lss 21 22]
def r90_32:LA:=[oM 27 0,oM 28 10,oO 29 (.iaddr 3 none (.tmp 27) (.tmp 28)),lA 30 3 29,oM 31 1,oM 32 8,bT 33 .mul 31 32,oM 34 10,bT 35 .mul 33 34,oM 36 6,oO 37 (.call 58 [(.tmp 35),(.tmp 36)]),oO 38 (.call 125 [(.tmp 30),(.tmp 37)]),oM 26 38,oO 39 (.extract 0 (.tmp 26)),oO 40 (.extract 1 (.tmp 26)),oO 11 (.alloc (zI 3)),sD 3 11 39,oM 12 40]
def r90_35:LA:=[oM 41 12,bK 42 .eql 41 0]
def r90_37:LA:=[lA 44 3 9,lA 45 3 11,oO 46 (.call 60 [(.tmp 44),(.tmp 45)]),oM 43 46,oO 47 (.extract 0 (.tmp 43)),oO 48 (.extract 1 (.tmp 43)),sD 3 9 47,oM 12 48]
def r90_39:LA:=[oM 49 12,bK 50 .neq 49 0]
def r90_42:LA:=[oM 51 12,oO 4 (.mv (.const (.slice none 0 0))),oM 5 51]
def r90_43:LA:=[oM 24 10,bK 25 .add 24 1,oM 10 25]
def r90_44:LA:=[oM 52 7,lA 53 3 9,oO 54 (.bslice 3 1 [(.v (.int .i64 0)),(.v (.int .i64 0)),(.v (.int .i64 0))] [(0,(.tmp 53))]),oO 55 (.append 3 24 (.tmp 52) (.tmp 54)),oM 7 55]
def r90_45:LA:=[oM 18 8,bK 19 .add 18 1,oM 8 19]
def r90_47:LA:=[oM 56 7,oM 4 56,mK 5 0]
def tr90:TG:=[tT 0 [0,1],tT 1 [0,1,6],tT 2 [0,1,6,7],tT 3 [0,1,6,7,8],tT 4 [0,1,6,7,8,17],tT 6 [0,1,6,7,8,9],tT 7 [0,1,6,7,8,9,10],tT 8 [0,1,6,7,8,9,10,23],tT 10 [0,1,6,7,8,9,10,11,12],tT 11 [0,1,6,7,8,9,10,11,12,42],tT 12 [0,1,6,7,8,9,10,12],tT 13 [0,1,6,7,8,9,10,12,50],(14,⟨[4,5],true,[⟨false,4,0,20004,3⟩],[]⟩),tT 9 [0,1,6,7,8,9,10],tT 15 [0,1,6,7,8],tT 5 [0,1,6,7,8],(16,⟨[4,5],true,[⟨false,4,0,20004,3⟩],[]⟩)]
def tl90:TG:=[(4,⟨[0,1,6,7,8],true,[⟨false,7,0,20007,3⟩],[]⟩),(8,⟨[0,1,6,7,8,9,10],true,[⟨false,7,0,20007,3⟩],[]⟩)]
def rs90:List AResV:=[.tmp 4,.tmp 5]
def p90_0_0:PT St:=pS [sl 0 (aV false [(cD dL)]),sI 1,sI 6,sl 7 (aV false [(cRef 20007)]),sI 8,sP 9,sI 10] [eOwn 20007 3,eBox 9 (xs 3)]
def u90_0_0 {β:Type}(g:St->β):Rows->Int->Int->Int->Int->Rows->Int->Int->Int->β:=p90_0_0.unc g
def p90_0_1:PT St:=pS [sl 4 (aV false [(cRef 20004)]),sI 5] [eOwn 20004 3]
def u90_0_1 {β:Type}(g:St->β):Int->Rows->β:=p90_0_1.unc g
def p90_0_2:PT St:=pS [sl 0 (aV false [(cD dL)]),sI 1,sI 6,sl 7 (aV false [(cRef 20007)]),sI 8,sP 9,sI 10,sl 23 (aV false [(cD dB)])] [eOwn 20007 3,eBox 9 (xs 3)]
def u90_0_2 {β:Type}(g:St->β):Rows->Int->Int->Int->Int->Bool->Rows->Int->Int->Int->β:=p90_0_2.unc g
def p90_0_3:PT St:=pS [sl 0 (aV false [(cD dL)]),sI 1,sI 6,sl 7 (aV false [(cRef 20007)]),sI 8] [eOwn 20007 3]
def u90_0_3 {β:Type}(g:St->β):Rows->Int->Int->Int->Rows->β:=p90_0_3.unc g
def p90_0_4:PT St:=pS [sl 0 (aV false [(cD dL)]),sI 1,sI 6,sl 7 (aV false [(cRef 20007)]),sI 8,sl 17 (aV false [(cD dB)])] [eOwn 20007 3]
def u90_0_4 {β:Type}(g:St->β):Rows->Int->Int->Int->Bool->Rows->β:=p90_0_4.unc g
def pr90_0_0:PT (List RV):=pRs [pR false [rO 3],wI]
def ur90_0_0 {β:Type}(g:List RV->β):Rows->Int->β:=pr90_0_0.unc g
def E90_0g (a:Tf58_0)(b:Tf125_0)(c:Tf60_0):EnvK:=EnvK.of [⟨58,nt58,[⟨pa58_0,Fn58_0 a⟩]⟩,⟨125,nt125,[⟨pa125_0,Fn125_0 b⟩]⟩,⟨60,nt60,[⟨pa60_0,Fn60_0 c⟩]⟩] noSeq
def E90_0:EnvK:=E90_0g f58_0 f125_0 f60_0
theorem eo90_0:E90_0.Ok Pg:=EnvK.of_ok noSeq_ok ⟨⟨io58_0,trivial⟩,⟨io125_0,trivial⟩,⟨io60_0,trivial⟩,trivial⟩
def c90_0_24g:MCode:=(.seq (.seq (.region r90_27 [] (tO [0,1,6,7,8,9,10,23])) (.cond (.tmp 23) .skip (.exit 2))) (.seq (.block 3 (.seq (.region r90_32 [(2,10),(3,10),(2,15),(3,15),(10,15),(11,15)] (tO [0,1,6,7,8,9,10,11,12])) (.seq (.seq (.region r90_35 [] (tO [0,1,6,7,8,9,10,11,12,42])) (.cond (.tmp 42) (.region r90_37 [] (tO [0,1,6,7,8,9,10,12])) .skip)) (.seq (.region r90_39 [] (tO [0,1,6,7,8,9,10,12,50])) (.cond (.tmp 50) (.seq (.region r90_42 [] (some ⟨[4,5],true,[⟨false,4,0,20004,3⟩],[]⟩)) .ret) .skip))))) (.region r90_43 [] (tO [0,1,6,7,8,9,10]))))
def c90_0_24:MCode:=c90_0_24g
theorem g90_0_24:c90_0_24.Good Pg E90_0 sh90:=⟨⟨trivial,trivial,trivial⟩,⟨trivial,⟨trivial,trivial,trivial⟩,trivial,⟨trivial,trivial⟩,trivial⟩,trivial⟩
def S90_0_0g (i:Tf125_0)(j:Tf58_0)(l:Tf60_0)(α:Type)(m:Rows)(o b p a c d e:Int)(kn:I4 (Op α))(k1:Int->Op α)(k2:Int->Bool->Int->Int->Int->Op α):Op α:=
 cK (decide (a < b))
 (rowK m a [.int .i64,.int .i64,.int .i64]
 (fun q r s=>j α (w64 ((w64 (o*p))*a)) b
 (fun t w z=>i α q r s t w z
 (fun A B C g=>cK (g == 0)
 (l α c d e A B C
 (fun D F G h=>cK (h != 0)
 (k1 h)
 (kn (w64 (a+1)) D F G)))
 (cK (g != 0)
 (k1 g)
 (kn (w64 (a+1)) c d e))))))
 (k2 a (decide (a < b)) c d e)
def S90_0_0 (α:Type)(a:Rows)(b c d e g h i:Int)(kn:I4 (Op α))(k1:Int->Op α)(k2:Int->Bool->Int->Int->Int->Op α):Op α:=S90_0_0g f125_0 f58_0 f60_0 α a b c d e g h i kn k1 k2
def R90_0_0 (α:Type)(a:Rows)(b c d:Int)(k1:Int->Op α)(k2:Int->Bool->Int->Int->Int->Op α):Nat->I4 (Op α)
 | 0,_,_,_,_=>none
 | n+1,e,g,h,i=>S90_0_0 α a b c d e g h i (R90_0_0 α a b c d k1 k2 n) k1 k2
def L90_0_0 (α:Type)(a:Rows)(b c d:Int)(k1:Int->Op α)(k2:Int->Bool->Int->Int->Int->Op α)(e g h i:Int):Op α:=R90_0_0 α a b c d k1 k2 fuel e g h i
abbrev TL90_0_0:Type 1:=(α:Type)->Rows->Int->Int->Int->(Int->Op α)->(Int->Bool->Int->Int->Int->Op α)->I4 (Op α)
def F90_0_0 (v:TL90_0_0)(α:Type)(K:KT α):Rows->Int->Int->Int->Int->Rows->Int->Int->Int->Op α:=fun b c d e g h i j l=>v α b c d e (fun a=>u90_0_1 (K .ret) a ([]:Rows)) (fun a m o p q=>u90_0_2 (K (.exit 2)) b c d e a m h o p q) g i j l
theorem r90_0_0g (m:Tf58_0)(o:Tf125_0)(p:Tf60_0)(α:Type)(K:KT α)(Kn:SK α)(a:Rows)(b c d e:Int)(j:Rows)(g h i:Int):u90_0_0 (fun σ=>runM Pg (E90_0g m o p) sh90 (c90_0_24g ) (thenK (fun σ=>tidyK td90_24 σ Kn) K) σ) a b c d e j g h i=S90_0_0g o m p α a b c d e g h i (fun e g h i=>u90_0_0 Kn a b c d e j g h i) (fun l=>u90_0_1 (K .ret) l ([]:Rows)) (fun l q r s t=>u90_0_2 (K (.exit 2)) a b c d l q j r s t):=by kernel_rfl
theorem r90_0_0 (α:Type)(K:KT α)(Kn:SK α)(a:Rows)(b c d e:Int)(j:Rows)(g h i:Int):u90_0_0 (fun σ=>runM Pg E90_0 sh90 c90_0_24 (thenK (fun σ=>tidyK td90_24 σ Kn) K) σ) a b c d e j g h i=S90_0_0 α a b c d e g h i (fun e g h i=>u90_0_0 Kn a b c d e j g h i) (fun l=>u90_0_1 (K .ret) l ([]:Rows)) (fun l m o p q=>u90_0_2 (K (.exit 2)) a b c d l m j o p q):=r90_0_0g f58_0 f125_0 f60_0 α K Kn a b c d e j g h i
theorem t90_0_0 (α:Type)(K:KT α):∀ (n:Nat) (a:Rows) (b c d e:Int) (l:Rows) (g h i:Int),R90_0_0 α a b c d (fun j=>u90_0_1 (K .ret) j ([]:Rows)) (fun j m o p q=>u90_0_2 (K (.exit 2)) a b c d j m l o p q) n e g h i=u90_0_0 (loopT (runM Pg E90_0 sh90 c90_0_24) td90_24 K n) a b c d e l g h i:=by
 intro n
 induction n with
 | zero=>intros;rfl
 | succ n ih=>intro a b c d e l g h i;exact (congrArg (fun kn=>S90_0_0 α a b c d e g h i kn (fun j=>u90_0_1 (K .ret) j ([]:Rows)) (fun j m o p q=>u90_0_2 (K (.exit 2)) a b c d j m l o p q)) (funext fun e=>funext fun g=>funext fun h=>funext fun i=>ih a b c d e l g h i)).trans (r90_0_0 α K (loopT (runM Pg E90_0 sh90 c90_0_24) td90_24 K n) a b c d e l g h i).symm
theorem m90_0_0:∀ (α:Type) (K:KT α),F90_0_0 L90_0_0 α K=p90_0_0.unc fun σ=>loopT (runM Pg E90_0 sh90 c90_0_24) td90_24 K fuel σ:=fun α K=>by funext a b c d e g h i j;exact t90_0_0 α K fuel a b c d e g h i j
def c90_0_11g (a:TL90_0_0):MCode:=(.seq (.seq (.region r90_14 [] (tO [0,1,6,7,8,17])) (.cond (.tmp 17) .skip (.exit 0))) (.seq (.block 1 (.seq (.region r90_19 [] (tO [0,1,6,7,8,9])) (.seq (.seq (.region r90_22 [] (tO [0,1,6,7,8,9,10])) (.block 2 (.loop td90_24 [⟨p90_0_0,F90_0_0 a⟩] c90_0_24))) (.region r90_44 [] (tO [0,1,6,7,8]))))) (.region r90_45 [] (tO [0,1,6,7,8]))))
def c90_0_11:MCode:=c90_0_11g L90_0_0
theorem g90_0_11:c90_0_11.Good Pg E90_0 sh90:=⟨⟨trivial,trivial,trivial⟩,⟨trivial,⟨trivial,g90_0_24,m90_0_0,trivial⟩,trivial⟩,trivial⟩
def S90_0_1g (h:TL90_0_0)(α:Type)(i:Rows)(j b a:Int)(c:Rows)(kn:Int->Rows->Op α)(k1:Int->Op α)(k2:Int->Bool->Rows->Op α):Op α:=
 cK (decide (a < b))
 (h α i j b a
 (fun l=>k1 l)
 (fun m o d e g=>gK (apOk 3 24 c [[DC.v (.int .i64 d),DC.v (.int .i64 e),DC.v (.int .i64 g)]]) (kn (w64 (a+1)) (c++[[DC.v (.int .i64 d),DC.v (.int .i64 e),DC.v (.int .i64 g)]]))) 0 0 0 0)
 (k2 a (decide (a < b)) c)
def S90_0_1 (α:Type)(a:Rows)(b c d:Int)(e:Rows)(kn:Int->Rows->Op α)(k1:Int->Op α)(k2:Int->Bool->Rows->Op α):Op α:=S90_0_1g L90_0_0 α a b c d e kn k1 k2
def R90_0_1 (α:Type)(a:Rows)(b c:Int)(k1:Int->Op α)(k2:Int->Bool->Rows->Op α):Nat->Int->Rows->Op α
 | 0,_,_=>none
 | n+1,d,e=>S90_0_1 α a b c d e (R90_0_1 α a b c k1 k2 n) k1 k2
def L90_0_1 (α:Type)(a:Rows)(b c:Int)(k1:Int->Op α)(k2:Int->Bool->Rows->Op α)(d:Int)(e:Rows):Op α:=R90_0_1 α a b c k1 k2 fuel d e
abbrev TL90_0_1:Type 1:=(α:Type)->Rows->Int->Int->(Int->Op α)->(Int->Bool->Rows->Op α)->Int->Rows->Op α
def F90_0_1 (v:TL90_0_1)(α:Type)(K:KT α):Rows->Int->Int->Int->Rows->Op α:=fun b c d e g=>v α b c d (fun a=>u90_0_1 (K .ret) a ([]:Rows)) (fun a h i=>u90_0_4 (K (.exit 0)) b c d a h i) e g
theorem r90_0_1g (i:Tf58_0)(j:Tf125_0)(l:Tf60_0)(h:TL90_0_0)(α:Type)(K:KT α)(Kn:SK α)(a:Rows)(b c d:Int)(e:Rows):u90_0_3 (fun σ=>runM Pg (E90_0g i j l) sh90 (c90_0_11g h) (thenK (fun σ=>tidyK td90_11 σ Kn) K) σ) a b c d e=S90_0_1g h α a b c d e (fun d e=>u90_0_3 Kn a b c d e) (fun g=>u90_0_1 (K .ret) g ([]:Rows)) (fun g m o=>u90_0_4 (K (.exit 0)) a b c g m o):=by kernel_rfl
theorem r90_0_1 (α:Type)(K:KT α)(Kn:SK α)(a:Rows)(b c d:Int)(e:Rows):u90_0_3 (fun σ=>runM Pg E90_0 sh90 c90_0_11 (thenK (fun σ=>tidyK td90_11 σ Kn) K) σ) a b c d e=S90_0_1 α a b c d e (fun d e=>u90_0_3 Kn a b c d e) (fun g=>u90_0_1 (K .ret) g ([]:Rows)) (fun g h i=>u90_0_4 (K (.exit 0)) a b c g h i):=r90_0_1g f58_0 f125_0 f60_0 L90_0_0 α K Kn a b c d e
theorem t90_0_1 (α:Type)(K:KT α):∀ (n:Nat) (a:Rows) (b c d:Int) (e:Rows),R90_0_1 α a b c (fun g=>u90_0_1 (K .ret) g ([]:Rows)) (fun g h i=>u90_0_4 (K (.exit 0)) a b c g h i) n d e=u90_0_3 (loopT (runM Pg E90_0 sh90 c90_0_11) td90_11 K n) a b c d e:=by
 intro n
 induction n with
 | zero=>intros;rfl
 | succ n ih=>intro a b c d e;exact (congrArg (fun kn=>S90_0_1 α a b c d e kn (fun g=>u90_0_1 (K .ret) g ([]:Rows)) (fun g h i=>u90_0_4 (K (.exit 0)) a b c g h i)) (funext fun d=>funext fun e=>ih a b c d e)).trans (r90_0_1 α K (loopT (runM Pg E90_0 sh90 c90_0_11) td90_11 K n) a b c d e).symm
theorem m90_0_1:∀ (α:Type) (K:KT α),F90_0_1 L90_0_1 α K=p90_0_3.unc fun σ=>loopT (runM Pg E90_0 sh90 c90_0_11) td90_11 K fuel σ:=fun α K=>by funext a b c d e;exact t90_0_1 α K fuel a b c d e
abbrev Tf90_0:Type 1:=(α:Type)->Rows->Int->(Rows->Int->Op α)->Op α
def f90_0g (b:TL90_0_1)(α:Type)(a:Rows)(c:Int)(k1:Rows->Int->Op α):Op α:=
 b α a c ((List.length a:Nat):Int)
 (fun d=>k1 ([]:Rows) d)
 (fun g h e=>k1 e 0) 0 ([]:Rows)
def f90_0 (α:Type)(a:Rows)(b:Int)(k1:Rows->Int->Op α):Op α:=f90_0g L90_0_1 α a b k1
def pa90_0:PT (List DV):=pA [pV false [dL],vI]
def Fn90_0 (v:Tf90_0)(α:Type)(k:RT α):Rows->Int->Op α:=fun a b=>v α a b (fun c d=>ur90_0_0 k c d)
def cm90_0g (a:TL90_0_1):MCode:=(.seq (.region r90_2 [] (tO [0,1])) (.seq (.region r90_4 [] (tO [0,1,6])) (.seq (.region r90_6 [] (tO [0,1,6,7])) (.seq (.seq (.region r90_9 [] (tO [0,1,6,7,8])) (.block 0 (.loop td90_11 [⟨p90_0_3,F90_0_1 a⟩] c90_0_11))) (.seq (.region r90_47 [] (some ⟨[4,5],true,[⟨false,4,0,20004,3⟩],[]⟩)) .ret)))))
def cm90_0:MCode:=cm90_0g L90_0_1
theorem gm90_0:cm90_0.Good Pg E90_0 sh90:=⟨trivial,trivial,trivial,⟨trivial,g90_0_11,m90_0_1,trivial⟩,trivial,trivial⟩
theorem fm90_0g (b:Tf58_0)(c:Tf125_0)(d:Tf60_0)(a:TL90_0_1)(α:Type)(k:RT α):Fn90_0 (f90_0g a) α k=pa90_0.unc fun ds=>fnM Pg (E90_0g b c d) sh90 (cm90_0g a) rs90 k ds:=by kernel_rfl
theorem fm90_0:∀ (α:Type) (k:RT α),Fn90_0 f90_0 α k=pa90_0.unc fun ds=>fnM Pg E90_0 sh90 cm90_0 rs90 k ds:=fm90_0g f58_0 f125_0 f60_0 L90_0_1
theorem is90:FnIs Pg 90 nt90 tr90 tl90 cm90_0.erase rs90:=⟨Tryz.f90,Tryz.func90,rfl,by kernel_rfl,by kernel_rfl,by kernel_rfl⟩
theorem io90_0:InstOk Pg 90 nt90 ⟨pa90_0,Fn90_0 f90_0⟩:=inst_ok eo90_0 followsTry is90 ⟨⟨sh90,cm90_0,by kernel_rfl,gm90_0,fm90_0⟩⟩
abbrev nt114:Nat:=24
def sh114:SG:=[(11,[.cpx .f64,.int .i64]),(19,[.cpx .f64,.int .i64])]
def r114_2:LA:=[oO 3 (.box (.tmp 0)),oO 4 (.box (.tmp 1)),oO 5 (.box (.tmp 2)),oO 6 (.alloc [(.d (.v (.complex Go.FloatKind.f64 0 0))),(cI 0)]),mK 7 0]
def r114_4:LA:=[lA 11 2 3,oO 12 (.call 94 [.tmp 11]),oM 10 12,oO 13 (.extract 0 (.tmp 10)),oO 14 (.extract 1 (.tmp 10)),oO 8 (.alloc (zI 3)),sD 3 8 13,oM 9 14]
def r114_7:LA:=[oM 15 9,oO 16 (.bin .neq 26 (.tmp 15) (kI 0))]
def r114_10:LA:=[oO 17 (.build [(.d (.v (.complex Go.FloatKind.f64 0 0))),(cI 0)] []),oM 18 9,sD 2 6 17,oM 7 18]
def r114_12:LA:=[lA 19 2 4,oO 20 (.mkfn 145 [(.tmp 5),(.tmp 8)]),oO 21 (.call 144 [(.tmp 19),(.tmp 20)]),oO 22 (.extract 0 (.tmp 21)),oO 23 (.extract 1 (.tmp 21)),sD 2 6 22,oM 7 23]
def tr114:TG:=[tT 0 [3,4,5,6],tT 1 [4,5,6,8,9],tT 2 [4,5,6,8,9,16],tT 3 [6,7],tT 4 [6,7]]
def tl114:TG:=[]
def rs114:List AResV:=[.cell 6 true 2,.tmp 7]
def pr114_0_0:PT (List RV):=pRs [pR true [rD (dX .f64),rD (dI .i64)],wI]
def ur114_0_0 {β:Type}(g:List RV->β):Nat->Nat->Int->Int->β:=pr114_0_0.unc g
def E114_0g (a:Tf94_0)(b:Tf144_0):EnvK:=EnvK.of [⟨94,nt94,[⟨pa94_0,Fn94_0 a⟩]⟩,⟨144,nt144,[⟨pa144_0,Fn144_0 b⟩]⟩] noSeq
def E114_0:EnvK:=E114_0g f94_0 f144_0
theorem eo114_0:E114_0.Ok Pg:=EnvK.of_ok noSeq_ok ⟨⟨io94_0,trivial⟩,⟨io144_0,trivial⟩,trivial⟩
abbrev Tf114_0:Type 1:=(α:Type)->Nat->Nat->Int->Nat->Nat->Int->(Nat->Nat->Int->Int->Op α)->Op α
def f114_0g (c:Tf144_0)(d:Tf94_0)(α:Type)(e g:Nat)(a:Int)(h i:Nat)(j:Int)(k1:Nat->Nat->Int->Int->Op α):Op α:=
 d α e g a
 (fun l m b=>cK (b != 0)
 (k1 0 0 0 b)
 (c α h i j l m a
 (fun o p q r=>k1 o p q r)))
def f114_0 (α:Type)(a b:Nat)(c:Int)(d e:Nat)(g:Int)(k1:Nat->Nat->Int->Int->Op α):Op α:=f114_0g f144_0 f94_0 α a b c d e g k1
def pa114_0:PT (List DV):=pA [pV true [(dX .f64),(dI .i64)],pV true [(dX .f64),(dI .i64)],pV false [(dFn 154 [])]]
def Fn114_0 (v:Tf114_0)(α:Type)(k:RT α):Nat->Nat->Int->Nat->Nat->Int->Op α:=fun a b c d e g=>v α a b c d e g (fun h i j l=>ur114_0_0 k h i j l)
def cm114_0g:MCode:=(.seq (.region r114_2 [] (tO [3,4,5,6])) (.seq (.region r114_4 [] (tO [4,5,6,8,9])) (.seq (.seq (.region r114_7 [] (tO [4,5,6,8,9,16])) (.cond (.tmp 16) (.seq (.region r114_10 [] (tO [6,7])) .ret) .skip)) (.seq (.region r114_12 [] (tO [6,7])) .ret))))
def cm114_0:MCode:=cm114_0g
theorem gm114_0:cm114_0.Good Pg E114_0 sh114:=⟨trivial,trivial,⟨trivial,⟨trivial,trivial⟩,trivial⟩,trivial,trivial⟩
theorem fm114_0g (a:Tf94_0)(b:Tf144_0)(α:Type)(k:RT α):Fn114_0 (f114_0g b a) α k=pa114_0.unc fun ds=>fnM Pg (E114_0g a b) sh114 (cm114_0g ) rs114 k ds:=by kernel_rfl
theorem fm114_0:∀ (α:Type) (k:RT α),Fn114_0 f114_0 α k=pa114_0.unc fun ds=>fnM Pg E114_0 sh114 cm114_0 rs114 k ds:=fm114_0g f94_0 f144_0
theorem is114:FnIs Pg 114 nt114 tr114 tl114 cm114_0.erase rs114:=⟨Tryz.f114,Tryz.func114,rfl,by kernel_rfl,by kernel_rfl,by kernel_rfl⟩
theorem io114_0:InstOk Pg 114 nt114 ⟨pa114_0,Fn114_0 f114_0⟩:=inst_ok eo114_0 followsTry is114 ⟨⟨sh114,cm114_0,by kernel_rfl,gm114_0,fm114_0⟩⟩
def pr114_1_0:PT (List RV):=pRs [pR true [rD (dX .f64),rD (dI .i64)],wI]
def ur114_1_0 {β:Type}(g:List RV->β):Nat->Nat->Int->Int->β:=pr114_1_0.unc g
def E114_1g (a:Tf94_0)(b:Tf144_1):EnvK:=EnvK.of [⟨94,nt94,[⟨pa94_0,Fn94_0 a⟩]⟩,⟨144,nt144,[⟨pa144_1,Fn144_1 b⟩]⟩] noSeq
def E114_1:EnvK:=E114_1g f94_0 f144_1
theorem eo114_1:E114_1.Ok Pg:=EnvK.of_ok noSeq_ok ⟨⟨io94_0,trivial⟩,⟨io144_1,trivial⟩,trivial⟩
abbrev Tf114_1:Type 1:=(α:Type)->Nat->Nat->Int->Nat->Nat->Int->(Nat->Nat->Int->Int->Op α)->Op α
def f114_1g (c:Tf144_1)(d:Tf94_0)(α:Type)(e g:Nat)(a:Int)(h i:Nat)(j:Int)(k1:Nat->Nat->Int->Int->Op α):Op α:=
 d α e g a
 (fun l m b=>cK (b != 0)
 (k1 0 0 0 b)
 (c α h i j l m a
 (fun o p q r=>k1 o p q r)))
def f114_1 (α:Type)(a b:Nat)(c:Int)(d e:Nat)(g:Int)(k1:Nat->Nat->Int->Int->Op α):Op α:=f114_1g f144_1 f94_0 α a b c d e g k1
def pa114_1:PT (List DV):=pA [pV true [(dX .f64),(dI .i64)],pV true [(dX .f64),(dI .i64)],pV false [(dFn 115 [])]]
def Fn114_1 (v:Tf114_1)(α:Type)(k:RT α):Nat->Nat->Int->Nat->Nat->Int->Op α:=fun a b c d e g=>v α a b c d e g (fun h i j l=>ur114_1_0 k h i j l)
def cm114_1g:MCode:=(.seq (.region r114_2 [] (tO [3,4,5,6])) (.seq (.region r114_4 [] (tO [4,5,6,8,9])) (.seq (.seq (.region r114_7 [] (tO [4,5,6,8,9,16])) (.cond (.tmp 16) (.seq (.region r114_10 [] (tO [6,7])) .ret) .skip)) (.seq (.region r114_12 [] (tO [6,7])) .ret))))
def cm114_1:MCode:=cm114_1g
theorem gm114_1:cm114_1.Good Pg E114_1 sh114:=⟨trivial,trivial,⟨trivial,⟨trivial,trivial⟩,trivial⟩,trivial,trivial⟩
theorem fm114_1g (a:Tf94_0)(b:Tf144_1)(α:Type)(k:RT α):Fn114_1 (f114_1g b a) α k=pa114_1.unc fun ds=>fnM Pg (E114_1g a b) sh114 (cm114_1g ) rs114 k ds:=by kernel_rfl
theorem fm114_1:∀ (α:Type) (k:RT α),Fn114_1 f114_1 α k=pa114_1.unc fun ds=>fnM Pg E114_1 sh114 cm114_1 rs114 k ds:=fm114_1g f94_0 f144_1
theorem io114_1:InstOk Pg 114 nt114 ⟨pa114_1,Fn114_1 f114_1⟩:=inst_ok eo114_1 followsTry is114 ⟨⟨sh114,cm114_1,by kernel_rfl,gm114_1,fm114_1⟩⟩
def pr114_2_0:PT (List RV):=pRs [pR true [rD (dX .f64),rD (dI .i64)],wI]
def ur114_2_0 {β:Type}(g:List RV->β):Nat->Nat->Int->Int->β:=pr114_2_0.unc g
def E114_2g (a:Tf94_0)(b:Tf144_2):EnvK:=EnvK.of [⟨94,nt94,[⟨pa94_0,Fn94_0 a⟩]⟩,⟨144,nt144,[⟨pa144_2,Fn144_2 b⟩]⟩] noSeq
def E114_2:EnvK:=E114_2g f94_0 f144_2
theorem eo114_2:E114_2.Ok Pg:=EnvK.of_ok noSeq_ok ⟨⟨io94_0,trivial⟩,⟨io144_2,trivial⟩,trivial⟩
abbrev Tf114_2:Type 1:=(α:Type)->Nat->Nat->Int->Nat->Nat->Int->(Nat->Nat->Int->Int->Op α)->Op α
def f114_2g (c:Tf144_2)(d:Tf94_0)(α:Type)(e g:Nat)(a:Int)(h i:Nat)(j:Int)(k1:Nat->Nat->Int->Int->Op α):Op α:=
 d α e g a
 (fun l m b=>cK (b != 0)
 (k1 0 0 0 b)
 (c α h i j l m a
 (fun o p q r=>k1 o p q r)))
def f114_2 (α:Type)(a b:Nat)(c:Int)(d e:Nat)(g:Int)(k1:Nat->Nat->Int->Int->Op α):Op α:=f114_2g f144_2 f94_0 α a b c d e g k1
def pa114_2:PT (List DV):=pA [pV true [(dX .f64),(dI .i64)],pV true [(dX .f64),(dI .i64)],pV false [(dFn 122 [])]]
def Fn114_2 (v:Tf114_2)(α:Type)(k:RT α):Nat->Nat->Int->Nat->Nat->Int->Op α:=fun a b c d e g=>v α a b c d e g (fun h i j l=>ur114_2_0 k h i j l)
def cm114_2g:MCode:=(.seq (.region r114_2 [] (tO [3,4,5,6])) (.seq (.region r114_4 [] (tO [4,5,6,8,9])) (.seq (.seq (.region r114_7 [] (tO [4,5,6,8,9,16])) (.cond (.tmp 16) (.seq (.region r114_10 [] (tO [6,7])) .ret) .skip)) (.seq (.region r114_12 [] (tO [6,7])) .ret))))
def cm114_2:MCode:=cm114_2g
theorem gm114_2:cm114_2.Good Pg E114_2 sh114:=⟨trivial,trivial,⟨trivial,⟨trivial,trivial⟩,trivial⟩,trivial,trivial⟩
theorem fm114_2g (a:Tf94_0)(b:Tf144_2)(α:Type)(k:RT α):Fn114_2 (f114_2g b a) α k=pa114_2.unc fun ds=>fnM Pg (E114_2g a b) sh114 (cm114_2g ) rs114 k ds:=by kernel_rfl
theorem fm114_2:∀ (α:Type) (k:RT α),Fn114_2 f114_2 α k=pa114_2.unc fun ds=>fnM Pg E114_2 sh114 cm114_2 rs114 k ds:=fm114_2g f94_0 f144_2
theorem io114_2:InstOk Pg 114 nt114 ⟨pa114_2,Fn114_2 f114_2⟩:=inst_ok eo114_2 followsTry is114 ⟨⟨sh114,cm114_2,by kernel_rfl,gm114_2,fm114_2⟩⟩
abbrev nt82:Nat:=11
def sh82:SG:=[(6,[.cpx .f64,.int .i64]),(7,[.cpx .f64,.int .i64])]
def r82_2:LA:=[oO 2 (.box (.tmp 0)),oO 3 (.box (.tmp 1)),oO 4 (.alloc [(.d (.v (.complex Go.FloatKind.f64 0 0))),(cI 0)]),mK 5 0]
def r82_4:LA:=[lA 6 2 2,lA 7 2 3,oO 8 (.call 114 [(.tmp 6),(.tmp 7),(.func 115)]),oO 9 (.extract 0 (.tmp 8)),oO 10 (.extract 1 (.tmp 8)),sD 2 4 9,oM 5 10]
def tr82:TG:=[tT 0 [2,3,4],tT 1 [4,5]]
def tl82:TG:=[]
def rs82:List AResV:=[.cell 4 true 2,.tmp 5]
def pr82_0_0:PT (List RV):=pRs [pR true [rD (dX .f64),rD (dI .i64)],wI]
def ur82_0_0 {β:Type}(g:List RV->β):Nat->Nat->Int->Int->β:=pr82_0_0.unc g
def E82_0g (a:Tf114_1):EnvK:=EnvK.of [⟨114,nt114,[⟨pa114_1,Fn114_1 a⟩]⟩] noSeq
def E82_0:EnvK:=E82_0g f114_1
theorem eo82_0:E82_0.Ok Pg:=EnvK.of_ok noSeq_ok ⟨⟨io114_1,trivial⟩,trivial⟩
abbrev Tf82_0:Type 1:=(α:Type)->Nat->Nat->Int->Nat->Nat->Int->(Nat->Nat->Int->Int->Op α)->Op α
def f82_0g (a:Tf114_1)(α:Type)(b c:Nat)(d:Int)(e g:Nat)(h:Int)(k1:Nat->Nat->Int->Int->Op α):Op α:=
 a α b c d e g h
 (fun i j l m=>k1 i j l m)
def f82_0 (α:Type)(a b:Nat)(c:Int)(d e:Nat)(g:Int)(k1:Nat->Nat->Int->Int->Op α):Op α:=f82_0g f114_1 α a b c d e g k1
def pa82_0:PT (List DV):=pA [pV true [(dX .f64),(dI .i64)],pV true [(dX .f64),(dI .i64)]]
def Fn82_0 (v:Tf82_0)(α:Type)(k:RT α):Nat->Nat->Int->Nat->Nat->Int->Op α:=fun a b c d e g=>v α a b c d e g (fun h i j l=>ur82_0_0 k h i j l)
def cm82_0g:MCode:=(.seq (.region r82_2 [] (tO [2,3,4])) (.seq (.region r82_4 [] (tO [4,5])) .ret))
def cm82_0:MCode:=cm82_0g
theorem gm82_0:cm82_0.Good Pg E82_0 sh82:=⟨trivial,trivial,trivial⟩
theorem fm82_0g (a:Tf114_1)(α:Type)(k:RT α):Fn82_0 (f82_0g a) α k=pa82_0.unc fun ds=>fnM Pg (E82_0g a) sh82 (cm82_0g ) rs82 k ds:=by kernel_rfl
theorem fm82_0:∀ (α:Type) (k:RT α),Fn82_0 f82_0 α k=pa82_0.unc fun ds=>fnM Pg E82_0 sh82 cm82_0 rs82 k ds:=fm82_0g f114_1
theorem is82:FnIs Pg 82 nt82 tr82 tl82 cm82_0.erase rs82:=⟨Tryz.f82,Tryz.func82,rfl,by kernel_rfl,by kernel_rfl,by kernel_rfl⟩
theorem io82_0:InstOk Pg 82 nt82 ⟨pa82_0,Fn82_0 f82_0⟩:=inst_ok eo82_0 followsTry is82 ⟨⟨sh82,cm82_0,by kernel_rfl,gm82_0,fm82_0⟩⟩
abbrev nt136:Nat:=11
def sh136:SG:=[(6,[.cpx .f64,.int .i64]),(7,[.cpx .f64,.int .i64])]
def r136_2:LA:=[oO 2 (.box (.tmp 0)),oO 3 (.box (.tmp 1)),oO 4 (.alloc [(.d (.v (.complex Go.FloatKind.f64 0 0))),(cI 0)]),mK 5 0]
def r136_4:LA:=[lA 6 2 2,lA 7 2 3,oO 8 (.call 114 [(.tmp 6),(.tmp 7),(.func 154)]),oO 9 (.extract 0 (.tmp 8)),oO 10 (.extract 1 (.tmp 8)),sD 2 4 9,oM 5 10]
def tr136:TG:=[tT 0 [2,3,4],tT 1 [4,5]]
def tl136:TG:=[]
def rs136:List AResV:=[.cell 4 true 2,.tmp 5]
def pr136_0_0:PT (List RV):=pRs [pR true [rD (dX .f64),rD (dI .i64)],wI]
def ur136_0_0 {β:Type}(g:List RV->β):Nat->Nat->Int->Int->β:=pr136_0_0.unc g
def E136_0g (a:Tf114_0):EnvK:=EnvK.of [⟨114,nt114,[⟨pa114_0,Fn114_0 a⟩]⟩] noSeq
def E136_0:EnvK:=E136_0g f114_0
theorem eo136_0:E136_0.Ok Pg:=EnvK.of_ok noSeq_ok ⟨⟨io114_0,trivial⟩,trivial⟩
abbrev Tf136_0:Type 1:=(α:Type)->Nat->Nat->Int->Nat->Nat->Int->(Nat->Nat->Int->Int->Op α)->Op α
def f136_0g (a:Tf114_0)(α:Type)(b c:Nat)(d:Int)(e g:Nat)(h:Int)(k1:Nat->Nat->Int->Int->Op α):Op α:=
 a α b c d e g h
 (fun i j l m=>k1 i j l m)
def f136_0 (α:Type)(a b:Nat)(c:Int)(d e:Nat)(g:Int)(k1:Nat->Nat->Int->Int->Op α):Op α:=f136_0g f114_0 α a b c d e g k1
def pa136_0:PT (List DV):=pA [pV true [(dX .f64),(dI .i64)],pV true [(dX .f64),(dI .i64)]]
def Fn136_0 (v:Tf136_0)(α:Type)(k:RT α):Nat->Nat->Int->Nat->Nat->Int->Op α:=fun a b c d e g=>v α a b c d e g (fun h i j l=>ur136_0_0 k h i j l)
def cm136_0g:MCode:=(.seq (.region r136_2 [] (tO [2,3,4])) (.seq (.region r136_4 [] (tO [4,5])) .ret))
def cm136_0:MCode:=cm136_0g
theorem gm136_0:cm136_0.Good Pg E136_0 sh136:=⟨trivial,trivial,trivial⟩
theorem fm136_0g (a:Tf114_0)(α:Type)(k:RT α):Fn136_0 (f136_0g a) α k=pa136_0.unc fun ds=>fnM Pg (E136_0g a) sh136 (cm136_0g ) rs136 k ds:=by kernel_rfl
theorem fm136_0:∀ (α:Type) (k:RT α),Fn136_0 f136_0 α k=pa136_0.unc fun ds=>fnM Pg E136_0 sh136 cm136_0 rs136 k ds:=fm136_0g f114_0
theorem is136:FnIs Pg 136 nt136 tr136 tl136 cm136_0.erase rs136:=⟨Tryz.f136,Tryz.func136,rfl,by kernel_rfl,by kernel_rfl,by kernel_rfl⟩
theorem io136_0:InstOk Pg 136 nt136 ⟨pa136_0,Fn136_0 f136_0⟩:=inst_ok eo136_0 followsTry is136 ⟨⟨sh136,cm136_0,by kernel_rfl,gm136_0,fm136_0⟩⟩
abbrev nt55:Nat:=14
def sh55:SG:=[(13,[.cpx .f64,.int .i64])]
def r55_2:LA:=[oO 4 (.alloc [(.d (.v (.complex Go.FloatKind.f64 0 0))),(cI 0)])]
def r55_4:LA:=[oM 8 0,oM 9 1,oO 10 (.call 105 [(.tmp 8),(.tmp 9)]),oM 7 10,oO 11 (.extract 0 (.tmp 7)),oO 12 (.extract 1 (.tmp 7)),oO 5 (.alloc [(.d (.v (.complex Go.FloatKind.f64 0 0))),(cI 0)]),sD 2 5 11,oM 6 12]
def r55_6:LA:=[lA 13 2 5,sD 2 4 13]
def tr55:TG:=[tT 0 [0,1,4],tT 1 [4,5],tT 2 [4]]
def tl55:TG:=[]
def rs55:List AResV:=[.cell 4 true 2]
def pr55_0_0:PT (List RV):=pRs [pR true [rD (dX .f64),rD (dI .i64)]]
def ur55_0_0 {β:Type}(g:List RV->β):Nat->Nat->Int->β:=pr55_0_0.unc g
def E55_0g (a:Tf105_0):EnvK:=EnvK.of [⟨105,nt105,[⟨pa105_0,Fn105_0 a⟩]⟩] noSeq
def E55_0:EnvK:=E55_0g f105_0
theorem eo55_0:E55_0.Ok Pg:=EnvK.of_ok noSeq_ok ⟨⟨io105_0,trivial⟩,trivial⟩
abbrev Tf55_0:Type 1:=(α:Type)->Int->Int->(Nat->Nat->Int->Op α)->Op α
def f55_0g (a:Tf105_0)(α:Type)(b c:Int)(k1:Nat->Nat->Int->Op α):Op α:=
 a α b c
 (fun d e g h=>k1 d e g)
def f55_0 (α:Type)(a b:Int)(k1:Nat->Nat->Int->Op α):Op α:=f55_0g f105_0 α a b k1
def pa55_0:PT (List DV):=pA [vI,vI]
def Fn55_0 (v:Tf55_0)(α:Type)(k:RT α):Int->Int->Op α:=fun a b=>v α a b (fun c d e=>ur55_0_0 k c d e)
def cm55_0g:MCode:=(.seq (.region r55_2 [] (tO [0,1,4])) (.seq (.region r55_4 [] (tO [4,5])) (.seq (.region r55_6 [] (tO [4])) .ret)))
def cm55_0:MCode:=cm55_0g
theorem gm55_0:cm55_0.Good Pg E55_0 sh55:=⟨trivial,trivial,trivial,trivial⟩
theorem fm55_0g (a:Tf105_0)(α:Type)(k:RT α):Fn55_0 (f55_0g a) α k=pa55_0.unc fun ds=>fnM Pg (E55_0g a) sh55 (cm55_0g ) rs55 k ds:=by kernel_rfl
theorem fm55_0:∀ (α:Type) (k:RT α),Fn55_0 f55_0 α k=pa55_0.unc fun ds=>fnM Pg E55_0 sh55 cm55_0 rs55 k ds:=fm55_0g f105_0
theorem is55:FnIs Pg 55 nt55 tr55 tl55 cm55_0.erase rs55:=⟨Tryz.f55,Tryz.func55,rfl,by kernel_rfl,by kernel_rfl,by kernel_rfl⟩
theorem io55_0:InstOk Pg 55 nt55 ⟨pa55_0,Fn55_0 f55_0⟩:=inst_ok eo55_0 followsTry is55 ⟨⟨sh55,cm55_0,by kernel_rfl,gm55_0,fm55_0⟩⟩
abbrev nt42:Nat:=58
def sh42:SG:=[(18,iS 3),(19,iS 3),(23,iS 3),(24,iS 3),(25,iS 3),(26,iS 3),(36,iS 3),(37,iS 3),(42,iS 3),(43,iS 3),(52,iS 3),(53,iS 3)]
def r42_2:LA:=[oO 2 (.mv (.const (.slice none 0 0))),mK 3 0]
def r42_4:LA:=[oM 9 0,oO 10 (.len (.tmp 9)),oM 4 10]
def r42_6:LA:=[oM 11 4,oO 12 (.mkslice 3 24 [(.v (.int .i64 0)),(.v (.int .i64 0)),(.v (.int .i64 0))] (.tmp 11) (.tmp 11)),oM 5 12]
def r42_8:LA:=[oM 13 5,oM 14 5,oM 15 4,bK 16 .quo 15 2,oM 17 0,oO 18 (.iaddr 3 none (.tmp 17) (kI 0)),lA 19 3 18,oM 20 0,oM 21 4,bK 22 .quo 21 2,oO 23 (.iaddr 3 none (.tmp 20) (.tmp 22)),lA 24 3 23,oO 25 (.iaddr 3 none (.tmp 13) (kI 0)),sD 3 25 19,oO 26 (.iaddr 3 none (.tmp 14) (.tmp 16)),sD 3 26 24]
def r42_11:LA:=[mK 6 1]
def td42_13:OT:=(some ⟨[0,4,5,6],true,[⟨false,5,0,20005,3⟩],[]⟩)
def r42_16:LA:=[oM 27 6,oM 28 4,bK 29 .quo 28 2,bT 30 .lss 27 29]
def r42_21:LA:=[oM 34 0,oM 35 6,oO 36 (.iaddr 3 none (.tmp 34) (.tmp 35)),lA 37 3 36,oM 38 0,oM 39 4,oM 40 6,bT 41 .sub 39 40,oO 42 (.iaddr 3 none (.tmp 38) (.tmp 41)),lA 43 3 42,oO 44 (.call 93 [(.tmp 37),(.tmp 43)]),oM 33 44,oO 45 (.extract 0 (.tmp 33)),oO 46 (.extract 1 (.tmp 33)),oO 7 (.alloc (zI 3)),sD 3 7 45,oM 8 46]
def r42_24:LA:=[oM 47 8,bK 48 .neq 47 0]
def r42_27:LA:=[oM 49 8,oO 2 (.mv (.const (.slice none 0 0))),oM 3 49]
def r42_28:LA:=[oM 50 5,oM 51 6,lA 52 3 7,oO 53 (.iaddr 3 none (.tmp 50) (.tmp 51)),sD 3 53 52]
def r42_29:LA:=[oM 31 6,bK 32 .add 31 1,oM 6 32]
def r42_31:LA:=[oM 54 5,oO 55 (.call 90 [(.tmp 54),(kI 1)]),oO 56 (.extract 0 (.tmp 55)),oO 57 (.extract 1 (.tmp 55)),oM 2 56,oM 3 57]
def tr42:TG:=[tT 0 [0],tT 1 [0,4],tT 2 [0,4,5],tT 3 [0,4,5],tT 4 [0,4,5,6],tT 5 [0,4,5,6,30],tT 7 [0,4,5,6,7,8],tT 8 [0,4,5,6,7,8,48],(9,⟨[2,3],true,[⟨false,2,0,20002,3⟩],[]⟩),tT 10 [0,4,5,6],tT 6 [0,4,5,6],(11,⟨[2,3],true,[⟨false,2,0,20002,3⟩],[]⟩)]
def tl42:TG:=[(5,⟨[0,4,5,6],true,[⟨false,5,0,20005,3⟩],[]⟩)]
def rs42:List AResV:=[.tmp 2,.tmp 3]
def p42_0_0:PT St:=pS [sl 0 (aV false [(cD dL)]),sI 4,sl 5 (aV false [(cRef 20005)]),sI 6] [eOwn 20005 3]
def u42_0_0 {β:Type}(g:St->β):Rows->Int->Int->Rows->β:=p42_0_0.unc g
def p42_0_1:PT St:=pS [sl 2 (aV false [(cRef 20002)]),sI 3] [eOwn 20002 3]
def u42_0_1 {β:Type}(g:St->β):Int->Rows->β:=p42_0_1.unc g
def p42_0_2:PT St:=pS [sl 0 (aV false [(cD dL)]),sI 4,sl 5 (aV false [(cRef 20005)]),sI 6,sl 30 (aV false [(cD dB)])] [eOwn 20005 3]
def u42_0_2 {β:Type}(g:St->β):Rows->Int->Int->Bool->Rows->β:=p42_0_2.unc g
def pr42_0_0:PT (List RV):=pRs [pR false [rO 3],wI]
def ur42_0_0 {β:Type}(g:List RV->β):Rows->Int->β:=pr42_0_0.unc g
def E42_0g (a:Tf93_0)(b:Tf90_0):EnvK:=EnvK.of [⟨93,nt93,[⟨pa93_0,Fn93_0 a⟩]⟩,⟨90,nt90,[⟨pa90_0,Fn90_0 b⟩]⟩] noSeq
def E42_0:EnvK:=E42_0g f93_0 f90_0
theorem eo42_0:E42_0.Ok Pg:=EnvK.of_ok noSeq_ok ⟨⟨io93_0,trivial⟩,⟨io90_0,trivial⟩,trivial⟩
def c42_0_13g:MCode:=(.seq (.seq (.region r42_16 [] (tO [0,4,5,6,30])) (.cond (.tmp 30) .skip (.exit 0))) (.seq (.block 1 (.seq (.region r42_21 [(2,14),(3,14),(8,14),(9,14),(10,14)] (tO [0,4,5,6,7,8])) (.seq (.seq (.region r42_24 [] (tO [0,4,5,6,7,8,48])) (.cond (.tmp 48) (.seq (.region r42_27 [] (some ⟨[2,3],true,[⟨false,2,0,20002,3⟩],[]⟩)) .ret) .skip)) (.region r42_28 [] (tO [0,4,5,6]))))) (.region r42_29 [] (tO [0,4,5,6]))))
def c42_0_13:MCode:=c42_0_13g
theorem g42_0_13:c42_0_13.Good Pg E42_0 sh42:=⟨⟨trivial,trivial,trivial⟩,⟨trivial,⟨trivial,⟨trivial,trivial⟩,trivial⟩,trivial⟩,trivial⟩
def S42_0_0g (g:Tf93_0)(α:Type)(d:Rows)(c a:Int)(b:Rows)(kn:Int->Rows->Op α)(k1:Int->Op α)(k2:Int->Bool->Rows->Op α):Op α:=
 cK (decide (a < (w64 (Int.tdiv c 2))))
 (rowK d a [.int .i64,.int .i64,.int .i64]
 (fun h i j=>rowK d (w64 (c - a)) [.int .i64,.int .i64,.int .i64]
 (fun l m o=>g α h i j l m o
 (fun p q r e=>cK (e != 0)
 (k1 e)
 (ixK b a 3
 (stK b (Int.toNat a) 0 3
 (kn (w64 (a+1)) (List.set b (Int.toNat a) (splice (rowAt b (Int.toNat a)) 0 [DC.v (.int .i64 p),DC.v (.int .i64 q),DC.v (.int .i64 r)])))))))))
 (k2 a (decide (a < (w64 (Int.tdiv c 2)))) b)
def S42_0_0 (α:Type)(a:Rows)(b c:Int)(d:Rows)(kn:Int->Rows->Op α)(k1:Int->Op α)(k2:Int->Bool->Rows->Op α):Op α:=S42_0_0g f93_0 α a b c d kn k1 k2
def R42_0_0 (α:Type)(a:Rows)(b:Int)(k1:Int->Op α)(k2:Int->Bool->Rows->Op α):Nat->Int->Rows->Op α
 | 0,_,_=>none
 | n+1,c,d=>S42_0_0 α a b c d (R42_0_0 α a b k1 k2 n) k1 k2
def L42_0_0 (α:Type)(a:Rows)(b:Int)(k1:Int->Op α)(k2:Int->Bool->Rows->Op α)(c:Int)(d:Rows):Op α:=R42_0_0 α a b k1 k2 fuel c d
abbrev TL42_0_0:Type 1:=(α:Type)->Rows->Int->(Int->Op α)->(Int->Bool->Rows->Op α)->Int->Rows->Op α
def F42_0_0 (v:TL42_0_0)(α:Type)(K:KT α):Rows->Int->Int->Rows->Op α:=fun b c d e=>v α b c (fun a=>u42_0_1 (K .ret) a ([]:Rows)) (fun a g h=>u42_0_2 (K (.exit 0)) b c a g h) d e
theorem r42_0_0g (g:Tf93_0)(h:Tf90_0)(α:Type)(K:KT α)(Kn:SK α)(a:Rows)(b c:Int)(d:Rows):u42_0_0 (fun σ=>runM Pg (E42_0g g h) sh42 (c42_0_13g ) (thenK (fun σ=>tidyK td42_13 σ Kn) K) σ) a b c d=S42_0_0g g α a b c d (fun c d=>u42_0_0 Kn a b c d) (fun e=>u42_0_1 (K .ret) e ([]:Rows)) (fun e i j=>u42_0_2 (K (.exit 0)) a b e i j):=by kernel_rfl
theorem r42_0_0 (α:Type)(K:KT α)(Kn:SK α)(a:Rows)(b c:Int)(d:Rows):u42_0_0 (fun σ=>runM Pg E42_0 sh42 c42_0_13 (thenK (fun σ=>tidyK td42_13 σ Kn) K) σ) a b c d=S42_0_0 α a b c d (fun c d=>u42_0_0 Kn a b c d) (fun e=>u42_0_1 (K .ret) e ([]:Rows)) (fun e g h=>u42_0_2 (K (.exit 0)) a b e g h):=r42_0_0g f93_0 f90_0 α K Kn a b c d
theorem t42_0_0 (α:Type)(K:KT α):∀ (n:Nat) (a:Rows) (b c:Int) (d:Rows),R42_0_0 α a b (fun e=>u42_0_1 (K .ret) e ([]:Rows)) (fun e g h=>u42_0_2 (K (.exit 0)) a b e g h) n c d=u42_0_0 (loopT (runM Pg E42_0 sh42 c42_0_13) td42_13 K n) a b c d:=by
 intro n
 induction n with
 | zero=>intros;rfl
 | succ n ih=>intro a b c d;exact (congrArg (fun kn=>S42_0_0 α a b c d kn (fun e=>u42_0_1 (K .ret) e ([]:Rows)) (fun e g h=>u42_0_2 (K (.exit 0)) a b e g h)) (funext fun c=>funext fun d=>ih a b c d)).trans (r42_0_0 α K (loopT (runM Pg E42_0 sh42 c42_0_13) td42_13 K n) a b c d).symm
theorem m42_0_0:∀ (α:Type) (K:KT α),F42_0_0 L42_0_0 α K=p42_0_0.unc fun σ=>loopT (runM Pg E42_0 sh42 c42_0_13) td42_13 K fuel σ:=fun α K=>by funext a b c d;exact t42_0_0 α K fuel a b c d
abbrev Tf42_0:Type 1:=(α:Type)->Rows->(Rows->Int->Op α)->Op α
def f42_0g (g:TL42_0_0)(h:Tf90_0)(α:Type)(a:Rows)(k1:Rows->Int->Op α):Op α:=
 gK (decide ((0:Int)<=((List.length a:Nat):Int)/\((List.length a:Nat):Int)<=((List.length a:Nat):Int)/\24*((List.length a:Nat):Int)<=140737488355328/\((List.length a:Nat):Int)<=9223372036854775807)) (rowK a 0 [.int .i64,.int .i64,.int .i64]
 (fun b c d=>rowK a (w64 (Int.tdiv ((List.length a:Nat):Int) 2)) [.int .i64,.int .i64,.int .i64]
 (fun i j l=>ixK (List.replicate (Int.toNat ((List.length a:Nat):Int)) [DC.v (.int .i64 0),DC.v (.int .i64 0),DC.v (.int .i64 0)]) 0 3
 (stK (List.replicate (Int.toNat ((List.length a:Nat):Int)) [DC.v (.int .i64 0),DC.v (.int .i64 0),DC.v (.int .i64 0)]) 0 0 3
 (ixK (List.set (List.replicate (Int.toNat ((List.length a:Nat):Int)) [DC.v (.int .i64 0),DC.v (.int .i64 0),DC.v (.int .i64 0)]) 0 (splice (rowAt (List.replicate (Int.toNat ((List.length a:Nat):Int)) [DC.v (.int .i64 0),DC.v (.int .i64 0),DC.v (.int .i64 0)]) 0) 0 [DC.v (.int .i64 b),DC.v (.int .i64 c),DC.v (.int .i64 d)])) (w64 (Int.tdiv ((List.length a:Nat):Int) 2)) 3
 (stK (List.set (List.replicate (Int.toNat ((List.length a:Nat):Int)) [DC.v (.int .i64 0),DC.v (.int .i64 0),DC.v (.int .i64 0)]) 0 (splice (rowAt (List.replicate (Int.toNat ((List.length a:Nat):Int)) [DC.v (.int .i64 0),DC.v (.int .i64 0),DC.v (.int .i64 0)]) 0) 0 [DC.v (.int .i64 b),DC.v (.int .i64 c),DC.v (.int .i64 d)])) (Int.toNat (w64 (Int.tdiv ((List.length a:Nat):Int) 2))) 0 3
 (g α a ((List.length a:Nat):Int)
 (fun m=>k1 ([]:Rows) m)
 (fun q r o=>h α o 1
 (fun e p=>flatK [e]
 (k1 e p))) 1 (List.set (List.set (List.replicate (Int.toNat ((List.length a:Nat):Int)) [DC.v (.int .i64 0),DC.v (.int .i64 0),DC.v (.int .i64 0)]) 0 (splice (rowAt (List.replicate (Int.toNat ((List.length a:Nat):Int)) [DC.v (.int .i64 0),DC.v (.int .i64 0),DC.v (.int .i64 0)]) 0) 0 [DC.v (.int .i64 b),DC.v (.int .i64 c),DC.v (.int .i64 d)])) (Int.toNat (w64 (Int.tdiv ((List.length a:Nat):Int) 2))) (splice (rowAt (List.set (List.replicate (Int.toNat ((List.length a:Nat):Int)) [DC.v (.int .i64 0),DC.v (.int .i64 0),DC.v (.int .i64 0)]) 0 (splice (rowAt (List.replicate (Int.toNat ((List.length a:Nat):Int)) [DC.v (.int .i64 0),DC.v (.int .i64 0),DC.v (.int .i64 0)]) 0) 0 [DC.v (.int .i64 b),DC.v (.int .i64 c),DC.v (.int .i64 d)])) (Int.toNat (w64 (Int.tdiv ((List.length a:Nat):Int) 2)))) 0 [DC.v (.int .i64 i),DC.v (.int .i64 j),DC.v (.int .i64 l)])))))))))
def f42_0 (α:Type)(a:Rows)(k1:Rows->Int->Op α):Op α:=f42_0g L42_0_0 f90_0 α a k1
def pa42_0:PT (List DV):=pA [pV false [dL]]
def Fn42_0 (v:Tf42_0)(α:Type)(k:RT α):Rows->Op α:=fun a=>v α a (fun b c=>ur42_0_0 k b c)
def cm42_0g (a:TL42_0_0):MCode:=(.seq (.region r42_2 [] (tO [0])) (.seq (.region r42_4 [] (tO [0,4])) (.seq (.region r42_6 [] (tO [0,4,5])) (.seq (.region r42_8 [] (tO [0,4,5])) (.seq (.seq (.region r42_11 [] (tO [0,4,5,6])) (.block 0 (.loop td42_13 [⟨p42_0_0,F42_0_0 a⟩] c42_0_13))) (.seq (.region r42_31 [] (some ⟨[2,3],true,[⟨false,2,0,20002,3⟩],[]⟩)) .ret))))))
def cm42_0:MCode:=cm42_0g L42_0_0
theorem gm42_0:cm42_0.Good Pg E42_0 sh42:=⟨trivial,trivial,trivial,trivial,⟨trivial,g42_0_13,m42_0_0,trivial⟩,trivial,trivial⟩
theorem fm42_0g (c:Tf93_0)(a:Tf90_0)(b:TL42_0_0)(α:Type)(k:RT α):Fn42_0 (f42_0g b a) α k=pa42_0.unc fun ds=>fnM Pg (E42_0g c a) sh42 (cm42_0g b) rs42 k ds:=by kernel_rfl
theorem fm42_0:∀ (α:Type) (k:RT α),Fn42_0 f42_0 α k=pa42_0.unc fun ds=>fnM Pg E42_0 sh42 cm42_0 rs42 k ds:=fm42_0g f93_0 f90_0 L42_0_0
theorem is42:FnIs Pg 42 nt42 tr42 tl42 cm42_0.erase rs42:=⟨Tryz.f42,Tryz.func42,rfl,by kernel_rfl,by kernel_rfl,by kernel_rfl⟩
theorem io42_0:InstOk Pg 42 nt42 ⟨pa42_0,Fn42_0 f42_0⟩:=inst_ok eo42_0 followsTry is42 ⟨⟨sh42,cm42_0,by kernel_rfl,gm42_0,fm42_0⟩⟩
abbrev nt38:Nat:=81
def sh38:SG:=[(21,[.cpx .f64,.int .i64]),(22,[.cpx .f64,.int .i64]),(43,iS 3),(44,iS 3),(46,iT),(51,iT),(56,iT),(61,iT),(67,iT),(73,iT),(78,iS 3),(79,iS 3)]
def r38_2:LA:=[oO 2 (.mv (.const (.slice none 0 0))),mK 3 0]
def r38_4:LA:=[oO 4 (.mv (.const (.slice none 0 0)))]
def r38_7:LA:=[mK 5 0]
def td38_9:OT:=(some ⟨[0,4,5],true,[⟨false,4,0,20004,3⟩],[]⟩)
def r38_12:LA:=[oM 12 5,oM 13 0,oO 14 (.len (.tmp 13)),bT 15 .lss 12 14]
def r38_16:LA:=[oM 18 4,oM 19 0,oM 20 5,oO 21 (.iaddr 2 none (.tmp 19) (.tmp 20)),lA 22 2 21,oO 23 (.call 89 [.tmp 22]),oO 24 (.bslice 3 1 [(.v (.int .i64 0)),(.v (.int .i64 0)),(.v (.int .i64 0))] [(0,(.tmp 23))]),oO 25 (.append 3 24 (.tmp 18) (.tmp 24)),oM 4 25]
def r38_17:LA:=[oM 16 5,bK 17 .add 16 1,oM 5 17]
def r38_19:LA:=[oM 27 4,oO 28 (.call 90 [(.tmp 27),(kI (-1))]),oM 26 28,oO 29 (.extract 0 (.tmp 26)),oO 30 (.extract 1 (.tmp 26)),oM 6 29,oM 7 30]
def r38_22:LA:=[oM 31 7,bK 32 .neq 31 0]
def r38_25:LA:=[oM 33 7,oO 2 (.mv (.const (.slice none 0 0))),oM 3 33]
def r38_27:LA:=[oM 34 4,oO 35 (.len (.tmp 34)),oM 8 35]
def r38_30:LA:=[mK 9 0]
def td38_32:OT:=(some ⟨[6,8,9],true,[⟨false,6,0,20006,3⟩],[]⟩)
def r38_35:LA:=[oM 36 9,oM 37 8,bT 38 .lss 36 37]
def r38_40:LA:=[oM 41 6,oM 42 9,oO 43 (.iaddr 3 none (.tmp 41) (.tmp 42)),lA 44 3 43,oO 10 (.alloc (zI 3)),sD 3 10 44]
def r38_42:LA:=[fA 45 0 10,lD 46 45,oM 47 8,oO 48 (.build [(cI 0),(cI 0)] [(0,1,(.tmp 46)),(1,1,(.tmp 47))]),oO 49 (.call 74 [.tmp 48]),fA 50 1 10,lD 51 50,oM 52 8,oO 53 (.build [(cI 0),(cI 0)] [(0,1,(.tmp 51)),(1,1,(.tmp 52))]),oO 54 (.call 74 [.tmp 53]),fA 55 2 10,lD 56 55,oM 57 8,oO 58 (.call 77 [(.tmp 56),(.tmp 57)]),oO 59 (.build (zI 3) [(0,1,(.tmp 49)),(1,1,(.tmp 54)),(2,1,(.tmp 58))]),oO 11 (.alloc (zI 3)),sD 3 11 59]
def r38_45:LA:=[fA 60 0 10,lD 61 60,oM 62 8,oO 63 (.call 91 [(.tmp 61),(.tmp 62)]),bK 64 .neq 63 0,oM 65 64,oG 66 (.faddr 1 (.tmp 10)) 65 false,oG 67 (.load false 1 (.tmp 66)) 65 false,oG 68 (.mv (.tmp 8)) 65 false,oG 69 (.call 91 [(.tmp 67),(.tmp 68)]) 65 false,oG 70 (.bin .neq 3 (.tmp 69) (kI 0)) 65 false,oO 71 (.pick (.tmp 65) (.const (.bool true)) (.tmp 70))]
def r38_47:LA:=[fA 72 2 11,lD 73 72,bK 74 .add 73 1,fA 75 2 11,sD 1 75 74]
def r38_48:LA:=[oM 76 6,oM 77 9,lA 78 3 11,oO 79 (.iaddr 3 none (.tmp 76) (.tmp 77)),sD 3 79 78]
def r38_49:LA:=[oM 39 9,bK 40 .add 39 1,oM 9 40]
def r38_51:LA:=[oM 80 6,oM 2 80,mK 3 0]
def tr38:TG:=[tT 0 [0],tT 1 [0,4],tT 2 [0,4,5],tT 3 [0,4,5,15],tT 5 [0,4,5],tT 4 [0,4,5],tT 6 [4,6,7],tT 7 [4,6,7,32],(8,⟨[2,3],true,[⟨false,2,0,20002,3⟩],[]⟩),tT 9 [6,8],tT 10 [6,8,9],tT 11 [6,8,9,38],tT 13 [6,8,9,10],tT 14 [6,8,9,10,11],tT 15 [6,8,9,11,71],tT 16 [6,8,9,11],tT 17 [6,8,9],tT 12 [6,8,9],(18,⟨[2,3],true,[⟨false,2,0,20002,3⟩],[]⟩)]
def tl38:TG:=[(3,⟨[0,4,5],true,[⟨false,4,0,20004,3⟩],[]⟩),(11,⟨[6,8,9],true,[⟨false,6,0,20006,3⟩],[]⟩)]
def rs38:List AResV:=[.tmp 2,.tmp 3]
def p38_0_0:PT St:=pS [sl 0 (aV false [(cD dL)]),sl 4 (aV false [(cRef 20004)]),sI 5] [eOwn 20004 3]
def u38_0_0 {β:Type}(g:St->β):Rows->Int->Rows->β:=p38_0_0.unc g
def p38_0_1:PT St:=pS [sl 0 (aV false [(cD dL)]),sl 4 (aV false [(cRef 20004)]),sI 5,sl 15 (aV false [(cD dB)])] [eOwn 20004 3]
def u38_0_1 {β:Type}(g:St->β):Rows->Int->Bool->Rows->β:=p38_0_1.unc g
def p38_0_2:PT St:=pS [sl 6 (aV false [(cRef 20006)]),sI 8,sI 9,sP 10,sP 11] [eOwn 20006 3,eBox 10 (xs 3),eBox 11 (xs 3)]
def u38_0_2 {β:Type}(g:St->β):Int->Int->Rows->I6 β:=p38_0_2.unc g
def p38_0_3:PT St:=pS [sl 6 (aV false [(cRef 20006)]),sI 8,sI 9,sP 11,sl 71 (aV false [(cD dB)])] [eOwn 20006 3,eBox 11 (xs 3)]
def u38_0_3 {β:Type}(g:St->β):Int->Int->Bool->Rows->Int->Int->Int->β:=p38_0_3.unc g
def p38_0_4:PT St:=pS [sl 6 (aV false [(cRef 20006)]),sI 8,sI 9] [eOwn 20006 3]
def u38_0_4 {β:Type}(g:St->β):Int->Int->Rows->β:=p38_0_4.unc g
def p38_0_5:PT St:=pS [sl 6 (aV false [(cRef 20006)]),sI 8,sI 9,sl 38 (aV false [(cD dB)])] [eOwn 20006 3]
def u38_0_5 {β:Type}(g:St->β):Int->Int->Bool->Rows->β:=p38_0_5.unc g
def pr38_0_0:PT (List RV):=pRs [pR false [rO 3],wI]
def ur38_0_0 {β:Type}(g:List RV->β):Rows->Int->β:=pr38_0_0.unc g
def E38_0g (a:Tf89_0)(b:Tf90_0)(c:Tf74_0)(d:Tf77_0)(e:Tf91_0):EnvK:=EnvK.of [⟨89,nt89,[⟨pa89_0,Fn89_0 a⟩]⟩,⟨90,nt90,[⟨pa90_0,Fn90_0 b⟩]⟩,⟨74,nt74,[⟨pa74_0,Fn74_0 c⟩]⟩,⟨77,nt77,[⟨pa77_0,Fn77_0 d⟩]⟩,⟨91,nt91,[⟨pa91_0,Fn91_0 e⟩]⟩] noSeq
def E38_0:EnvK:=E38_0g f89_0 f90_0 f74_0 f77_0 f91_0
theorem eo38_0:E38_0.Ok Pg:=EnvK.of_ok noSeq_ok ⟨⟨io89_0,trivial⟩,⟨io90_0,trivial⟩,⟨io74_0,trivial⟩,⟨io77_0,trivial⟩,⟨io91_0,trivial⟩,trivial⟩
def c38_0_44g:MCode:=(.region r38_45 [] (tO [6,8,9,11,71]))
def c38_0_44:MCode:=c38_0_44g
theorem g38_0_44:c38_0_44.Good Pg E38_0 sh38:=trivial
abbrev TJ38_0_1:Type 1:=(α:Type)->Int->Int->Int->(Bool->Op α)->Op α
def J38_0_1g (a:Tf91_0)(α:Type)(b c d:Int)(k1:Bool->Op α):Op α:=
 a α c b
 (fun e=>cK (e != 0)
 (k1 true)
 (a α d b
 (fun g=>k1 (g != 0))))
def J38_0_1 (α:Type)(a b c:Int)(k1:Bool->Op α):Op α:=J38_0_1g f91_0 α a b c k1
def F38_0_1 (v:TJ38_0_1)(α:Type)(K:KT α):Int->Int->Rows->I6 (Op α):=fun a b c d e l g h i=>v α a d e (fun j=>u38_0_3 (K .normal) a b j c g h i)
theorem m38_0_1g (b:Tf89_0)(c:Tf90_0)(d:Tf74_0)(e:Tf77_0)(a:Tf91_0)(α:Type)(K:KT α):F38_0_1 (J38_0_1g a) α K=p38_0_2.unc fun σ=>runM Pg (E38_0g b c d e a) sh38 (c38_0_44g ) K σ:=by kernel_rfl
theorem m38_0_1:∀ (α:Type) (K:KT α),F38_0_1 J38_0_1 α K=p38_0_2.unc fun σ=>runM Pg E38_0 sh38 c38_0_44 K σ:=m38_0_1g f89_0 f90_0 f74_0 f77_0 f91_0
def c38_0_32g (a:TJ38_0_1):MCode:=(.seq (.seq (.region r38_35 [] (tO [6,8,9,38])) (.cond (.tmp 38) .skip (.exit 2))) (.seq (.block 3 (.seq (.region r38_40 [] (tO [6,8,9,10])) (.seq (.region r38_42 [(4,6),(4,11),(9,11),(1,15),(4,15),(6,15),(9,15),(11,15),(13,15)] (tO [6,8,9,10,11])) (.seq (.seq (.mark [⟨p38_0_2,F38_0_1 a⟩] c38_0_44) (.cond (.tmp 71) (.region r38_47 [] (tO [6,8,9,11])) .skip)) (.region r38_48 [] (tO [6,8,9])))))) (.region r38_49 [] (tO [6,8,9]))))
def c38_0_32:MCode:=c38_0_32g J38_0_1
theorem g38_0_32:c38_0_32.Good Pg E38_0 sh38:=⟨⟨trivial,trivial,trivial⟩,⟨trivial,trivial,⟨⟨g38_0_44,m38_0_1,trivial⟩,trivial,trivial⟩,trivial⟩,trivial⟩
def S38_0_2g (l:TJ38_0_1)(d:Tf74_0)(m:Tf77_0)(α:Type)(c a:Int)(b:Rows)(kn:Int->Rows->Op α)(k1:Int->Bool->Rows->Op α):Op α:=
 cK (decide (a < c))
 (ixK b a 3
 (ldK b (Int.toNat a) 0 [.int .i64,.int .i64,.int .i64]
 (fun e g o=>d α e c
 (fun h=>d α g c
 (fun i=>m α o c
 (fun j=>l α c e g
 (fun p=>cK p
 (ixK b a 3
 (stK b (Int.toNat a) 0 3
 (kn (w64 (a+1)) (List.set b (Int.toNat a) (splice (rowAt b (Int.toNat a)) 0 [DC.v (.int .i64 h),DC.v (.int .i64 i),DC.v (.int .i64 (w64 (j+1)))])))))
 (ixK b a 3
 (stK b (Int.toNat a) 0 3
 (kn (w64 (a+1)) (List.set b (Int.toNat a) (splice (rowAt b (Int.toNat a)) 0 [DC.v (.int .i64 h),DC.v (.int .i64 i),DC.v (.int .i64 j)]))))))))))))
 (k1 a (decide (a < c)) b)
def S38_0_2 (α:Type)(a b:Int)(c:Rows)(kn:Int->Rows->Op α)(k1:Int->Bool->Rows->Op α):Op α:=S38_0_2g J38_0_1 f74_0 f77_0 α a b c kn k1
def R38_0_2 (α:Type)(a:Int)(k1:Int->Bool->Rows->Op α):Nat->Int->Rows->Op α
 | 0,_,_=>none
 | n+1,b,c=>S38_0_2 α a b c (R38_0_2 α a k1 n) k1
def L38_0_2 (α:Type)(a:Int)(k1:Int->Bool->Rows->Op α)(b:Int)(c:Rows):Op α:=R38_0_2 α a k1 fuel b c
abbrev TL38_0_2:Type 1:=(α:Type)->Int->(Int->Bool->Rows->Op α)->Int->Rows->Op α
def F38_0_2 (v:TL38_0_2)(α:Type)(K:KT α):Int->Int->Rows->Op α:=fun a b c=>v α a (fun d e g=>u38_0_5 (K (.exit 2)) a d e g) b c
theorem r38_0_2g (h:Tf89_0)(i:Tf90_0)(d:Tf74_0)(e:Tf77_0)(j:Tf91_0)(g:TJ38_0_1)(α:Type)(K:KT α)(Kn:SK α)(a b:Int)(c:Rows):u38_0_4 (fun σ=>runM Pg (E38_0g h i d e j) sh38 (c38_0_32g g) (thenK (fun σ=>tidyK td38_32 σ Kn) K) σ) a b c=S38_0_2g g d e α a b c (fun b c=>u38_0_4 Kn a b c) (fun l m o=>u38_0_5 (K (.exit 2)) a l m o):=by kernel_rfl
theorem r38_0_2 (α:Type)(K:KT α)(Kn:SK α)(a b:Int)(c:Rows):u38_0_4 (fun σ=>runM Pg E38_0 sh38 c38_0_32 (thenK (fun σ=>tidyK td38_32 σ Kn) K) σ) a b c=S38_0_2 α a b c (fun b c=>u38_0_4 Kn a b c) (fun d e g=>u38_0_5 (K (.exit 2)) a d e g):=r38_0_2g f89_0 f90_0 f74_0 f77_0 f91_0 J38_0_1 α K Kn a b c
theorem t38_0_2 (α:Type)(K:KT α):∀ (n:Nat) (a b:Int) (c:Rows),R38_0_2 α a (fun d e g=>u38_0_5 (K (.exit 2)) a d e g) n b c=u38_0_4 (loopT (runM Pg E38_0 sh38 c38_0_32) td38_32 K n) a b c:=by
 intro n
 induction n with
 | zero=>intros;rfl
 | succ n ih=>intro a b c;exact (congrArg (fun kn=>S38_0_2 α a b c kn (fun d e g=>u38_0_5 (K (.exit 2)) a d e g)) (funext fun b=>funext fun c=>ih a b c)).trans (r38_0_2 α K (loopT (runM Pg E38_0 sh38 c38_0_32) td38_32 K n) a b c).symm
theorem m38_0_2:∀ (α:Type) (K:KT α),F38_0_2 L38_0_2 α K=p38_0_4.unc fun σ=>loopT (runM Pg E38_0 sh38 c38_0_32) td38_32 K fuel σ:=fun α K=>by funext a b c;exact t38_0_2 α K fuel a b c
def c38_0_9g:MCode:=(.seq (.seq (.region r38_12 [] (tO [0,4,5,15])) (.cond (.tmp 15) .skip (.exit 0))) (.seq (.block 1 (.region r38_16 [] (tO [0,4,5]))) (.region r38_17 [] (tO [0,4,5]))))
def c38_0_9:MCode:=c38_0_9g
theorem g38_0_9:c38_0_9.Good Pg E38_0 sh38:=⟨⟨trivial,trivial,trivial⟩,trivial,trivial⟩
def S38_0_0g (h:Tf89_0)(α:Type)(b:Rows)(a:Int)(c:Rows)(kn:Int->Rows->Op α)(k1:Int->Bool->Rows->Op α):Op α:=
 cK (decide (a < ((List.length b:Nat):Int)))
 (rowK b a [.cpx .f64,.int .i64]
 (fun i j d=>h α i j
 (fun e g=>gK (apOk 3 24 c [[DC.v (.int .i64 e),DC.v (.int .i64 g),DC.v (.int .i64 d)]]) (kn (w64 (a+1)) (c++[[DC.v (.int .i64 e),DC.v (.int .i64 g),DC.v (.int .i64 d)]])))))
 (k1 a (decide (a < ((List.length b:Nat):Int))) c)
def S38_0_0 (α:Type)(a:Rows)(b:Int)(c:Rows)(kn:Int->Rows->Op α)(k1:Int->Bool->Rows->Op α):Op α:=S38_0_0g f89_0 α a b c kn k1
def R38_0_0 (α:Type)(a:Rows)(k1:Int->Bool->Rows->Op α):Nat->Int->Rows->Op α
 | 0,_,_=>none
 | n+1,b,c=>S38_0_0 α a b c (R38_0_0 α a k1 n) k1
def L38_0_0 (α:Type)(a:Rows)(k1:Int->Bool->Rows->Op α)(b:Int)(c:Rows):Op α:=R38_0_0 α a k1 fuel b c
abbrev TL38_0_0:Type 1:=(α:Type)->Rows->(Int->Bool->Rows->Op α)->Int->Rows->Op α
def F38_0_0 (v:TL38_0_0)(α:Type)(K:KT α):Rows->Int->Rows->Op α:=fun a b c=>v α a (fun d e g=>u38_0_1 (K (.exit 0)) a d e g) b c
theorem r38_0_0g (d:Tf89_0)(e:Tf90_0)(g:Tf74_0)(h:Tf77_0)(i:Tf91_0)(α:Type)(K:KT α)(Kn:SK α)(a:Rows)(b:Int)(c:Rows):u38_0_0 (fun σ=>runM Pg (E38_0g d e g h i) sh38 (c38_0_9g ) (thenK (fun σ=>tidyK td38_9 σ Kn) K) σ) a b c=S38_0_0g d α a b c (fun b c=>u38_0_0 Kn a b c) (fun j l m=>u38_0_1 (K (.exit 0)) a j l m):=by kernel_rfl
theorem r38_0_0 (α:Type)(K:KT α)(Kn:SK α)(a:Rows)(b:Int)(c:Rows):u38_0_0 (fun σ=>runM Pg E38_0 sh38 c38_0_9 (thenK (fun σ=>tidyK td38_9 σ Kn) K) σ) a b c=S38_0_0 α a b c (fun b c=>u38_0_0 Kn a b c) (fun d e g=>u38_0_1 (K (.exit 0)) a d e g):=r38_0_0g f89_0 f90_0 f74_0 f77_0 f91_0 α K Kn a b c
theorem t38_0_0 (α:Type)(K:KT α):∀ (n:Nat) (a:Rows) (b:Int) (c:Rows),R38_0_0 α a (fun d e g=>u38_0_1 (K (.exit 0)) a d e g) n b c=u38_0_0 (loopT (runM Pg E38_0 sh38 c38_0_9) td38_9 K n) a b c:=by
 intro n
 induction n with
 | zero=>intros;rfl
 | succ n ih=>intro a b c;exact (congrArg (fun kn=>S38_0_0 α a b c kn (fun d e g=>u38_0_1 (K (.exit 0)) a d e g)) (funext fun b=>funext fun c=>ih a b c)).trans (r38_0_0 α K (loopT (runM Pg E38_0 sh38 c38_0_9) td38_9 K n) a b c).symm
theorem m38_0_0:∀ (α:Type) (K:KT α),F38_0_0 L38_0_0 α K=p38_0_0.unc fun σ=>loopT (runM Pg E38_0 sh38 c38_0_9) td38_9 K fuel σ:=fun α K=>by funext a b c;exact t38_0_0 α K fuel a b c
abbrev Tf38_0:Type 1:=(α:Type)->Rows->(Rows->Int->Op α)->Op α
def f38_0g (d:TL38_0_0)(e:TL38_0_2)(g:Tf90_0)(α:Type)(h:Rows)(k1:Rows->Int->Op α):Op α:=
 d α h
 (fun j l a=>g α a (-1)
 (fun b c=>flatK [b]
 (cK (c != 0)
 (k1 ([]:Rows) c)
 (e α ((List.length a:Nat):Int)
 (fun m o i=>k1 i 0) 0 b)))) 0 ([]:Rows)
def f38_0 (α:Type)(a:Rows)(k1:Rows->Int->Op α):Op α:=f38_0g L38_0_0 L38_0_2 f90_0 α a k1
def pa38_0:PT (List DV):=pA [pV false [dL]]
def Fn38_0 (v:Tf38_0)(α:Type)(k:RT α):Rows->Op α:=fun a=>v α a (fun b c=>ur38_0_0 k b c)
def cm38_0g (a:TL38_0_0)(b:TL38_0_2):MCode:=(.seq (.region r38_2 [] (tO [0])) (.seq (.region r38_4 [] (tO [0,4])) (.seq (.seq (.region r38_7 [] (tO [0,4,5])) (.block 0 (.loop td38_9 [⟨p38_0_0,F38_0_0 a⟩] c38_0_9))) (.seq (.region r38_19 [] (tO [4,6,7])) (.seq (.seq (.region r38_22 [] (tO [4,6,7,32])) (.cond (.tmp 32) (.seq (.region r38_25 [] (some ⟨[2,3],true,[⟨false,2,0,20002,3⟩],[]⟩)) .ret) .skip)) (.seq (.region r38_27 [] (tO [6,8])) (.seq (.seq (.region r38_30 [] (tO [6,8,9])) (.block 2 (.loop td38_32 [⟨p38_0_4,F38_0_2 b⟩] c38_0_32))) (.seq (.region r38_51 [] (some ⟨[2,3],true,[⟨false,2,0,20002,3⟩],[]⟩)) .ret))))))))
def cm38_0:MCode:=cm38_0g L38_0_0 L38_0_2
theorem gm38_0:cm38_0.Good Pg E38_0 sh38:=⟨trivial,trivial,⟨trivial,g38_0_9,m38_0_0,trivial⟩,trivial,⟨trivial,⟨trivial,trivial⟩,trivial⟩,trivial,⟨trivial,g38_0_32,m38_0_2,trivial⟩,trivial,trivial⟩
theorem fm38_0g (d:Tf89_0)(a:Tf90_0)(e:Tf74_0)(g:Tf77_0)(h:Tf91_0)(b:TL38_0_0)(c:TL38_0_2)(α:Type)(k:RT α):Fn38_0 (f38_0g b c a) α k=pa38_0.unc fun ds=>fnM Pg (E38_0g d a e g h) sh38 (cm38_0g b c) rs38 k ds:=by kernel_rfl
theorem fm38_0:∀ (α:Type) (k:RT α),Fn38_0 f38_0 α k=pa38_0.unc fun ds=>fnM Pg E38_0 sh38 cm38_0 rs38 k ds:=fm38_0g f89_0 f90_0 f74_0 f77_0 f91_0 L38_0_0 L38_0_2
theorem is38:FnIs Pg 38 nt38 tr38 tl38 cm38_0.erase rs38:=⟨Tryz.f38,Tryz.func38,rfl,by kernel_rfl,by kernel_rfl,by kernel_rfl⟩
theorem io38_0:InstOk Pg 38 nt38 ⟨pa38_0,Fn38_0 f38_0⟩:=inst_ok eo38_0 followsTry is38 ⟨⟨sh38,cm38_0,by kernel_rfl,gm38_0,fm38_0⟩⟩
abbrev nt87:Nat:=20
def sh87:SG:=[(11,iT),(13,[.sl]),(15,[.cpx .f64,.int .i64]),(16,[.cpx .f64,.int .i64])]
def r87_2:LA:=[oO 6 (.alloc [(.d (.v (.complex Go.FloatKind.f64 0 0))),(cI 0)]),mK 7 0]
def r87_4:LA:=[oM 8 0,oM 9 1,bT 10 .mul 8 9,lD 11 2,oO 12 (.call 55 [(.tmp 10),(.tmp 11)]),lD 13 3,oM 14 1,oO 15 (.iaddr 2 none (.tmp 13) (.tmp 14)),lA 16 2 15,oO 17 (.call 82 [(.tmp 12),(.tmp 16)]),oO 18 (.extract 0 (.tmp 17)),oO 19 (.extract 1 (.tmp 17)),sD 2 6 18,oM 7 19]
def tr87:TG:=[tT 0 [0,1,2,3,6],tT 1 [6,7]]
def tl87:TG:=[]
def rs87:List AResV:=[.cell 6 true 2,.tmp 7]
def pr87_0_0:PT (List RV):=pRs [pR true [rD (dX .f64),rD (dI .i64)],wI]
def ur87_0_0 {β:Type}(g:List RV->β):Nat->Nat->Int->Int->β:=pr87_0_0.unc g
def E87_0g (a:Tf55_0)(b:Tf82_0):EnvK:=EnvK.of [⟨55,nt55,[⟨pa55_0,Fn55_0 a⟩]⟩,⟨82,nt82,[⟨pa82_0,Fn82_0 b⟩]⟩] noSeq
def E87_0:EnvK:=E87_0g f55_0 f82_0
theorem eo87_0:E87_0.Ok Pg:=EnvK.of_ok noSeq_ok ⟨⟨io55_0,trivial⟩,⟨io82_0,trivial⟩,trivial⟩
abbrev Tf87_0:Type 1:=(α:Type)->Int->Int->Int->Rows->(Nat->Nat->Int->Int->Op α)->Op α
def f87_0g (b:Tf55_0)(c:Tf82_0)(α:Type)(d a e:Int)(g:Rows)(k1:Nat->Nat->Int->Int->Op α):Op α:=
 b α (w64 (d*a)) e
 (fun h i j=>rowK g a [.cpx .f64,.int .i64]
 (fun l m o=>c α h i j l m o
 (fun p q r s=>k1 p q r s)))
def f87_0 (α:Type)(a b c:Int)(d:Rows)(k1:Nat->Nat->Int->Int->Op α):Op α:=f87_0g f55_0 f82_0 α a b c d k1
def pa87_0:PT (List DV):=pA [vI,vI,pV false [(dP [(dI .i64)] 0)],pV false [(dP [dL] 0)]]
def Fn87_0 (v:Tf87_0)(α:Type)(k:RT α):Int->Int->Int->Rows->Op α:=fun a b c d=>v α a b c d (fun e g h i=>ur87_0_0 k e g h i)
def cm87_0g:MCode:=(.seq (.region r87_2 [] (tO [0,1,2,3,6])) (.seq (.region r87_4 [(4,5),(4,7),(4,8)] (tO [6,7])) .ret))
def cm87_0:MCode:=cm87_0g
theorem gm87_0:cm87_0.Good Pg E87_0 sh87:=⟨trivial,trivial,trivial⟩
theorem fm87_0g (a:Tf55_0)(b:Tf82_0)(α:Type)(k:RT α):Fn87_0 (f87_0g a b) α k=pa87_0.unc fun ds=>fnM Pg (E87_0g a b) sh87 (cm87_0g ) rs87 k ds:=by kernel_rfl
theorem fm87_0:∀ (α:Type) (k:RT α),Fn87_0 f87_0 α k=pa87_0.unc fun ds=>fnM Pg E87_0 sh87 cm87_0 rs87 k ds:=fm87_0g f55_0 f82_0
theorem is87:FnIs Pg 87 nt87 tr87 tl87 cm87_0.erase rs87:=⟨Tryz.f87,Tryz.func87,rfl,by kernel_rfl,by kernel_rfl,by kernel_rfl⟩
theorem io87_0:InstOk Pg 87 nt87 ⟨pa87_0,Fn87_0 f87_0⟩:=inst_ok eo87_0 followsTry is87 ⟨⟨sh87,cm87_0,by kernel_rfl,gm87_0,fm87_0⟩⟩
abbrev nt86:Nat:=11
def sh86:SG:=[(6,[.cpx .f64,.int .i64]),(7,[.cpx .f64,.int .i64])]
def r86_2:LA:=[oO 2 (.box (.tmp 0)),oO 3 (.box (.tmp 1)),oO 4 (.alloc [(.d (.v (.complex Go.FloatKind.f64 0 0))),(cI 0)]),mK 5 0]
def r86_4:LA:=[lA 6 2 2,lA 7 2 3,oO 8 (.call 114 [(.tmp 6),(.tmp 7),(.func 122)]),oO 9 (.extract 0 (.tmp 8)),oO 10 (.extract 1 (.tmp 8)),sD 2 4 9,oM 5 10]
def tr86:TG:=[tT 0 [2,3,4],tT 1 [4,5]]
def tl86:TG:=[]
def rs86:List AResV:=[.cell 4 true 2,.tmp 5]
def pr86_0_0:PT (List RV):=pRs [pR true [rD (dX .f64),rD (dI .i64)],wI]
def ur86_0_0 {β:Type}(g:List RV->β):Nat->Nat->Int->Int->β:=pr86_0_0.unc g
def E86_0g (a:Tf114_2):EnvK:=EnvK.of [⟨114,nt114,[⟨pa114_2,Fn114_2 a⟩]⟩] noSeq
def E86_0:EnvK:=E86_0g f114_2
theorem eo86_0:E86_0.Ok Pg:=EnvK.of_ok noSeq_ok ⟨⟨io114_2,trivial⟩,trivial⟩
abbrev Tf86_0:Type 1:=(α:Type)->Nat->Nat->Int->Nat->Nat->Int->(Nat->Nat->Int->Int->Op α)->Op α
def f86_0g (a:Tf114_2)(α:Type)(b c:Nat)(d:Int)(e g:Nat)(h:Int)(k1:Nat->Nat->Int->Int->Op α):Op α:=
 a α b c d e g h
 (fun i j l m=>k1 i j l m)
def f86_0 (α:Type)(a b:Nat)(c:Int)(d e:Nat)(g:Int)(k1:Nat->Nat->Int->Int->Op α):Op α:=f86_0g f114_2 α a b c d e g k1
def pa86_0:PT (List DV):=pA [pV true [(dX .f64),(dI .i64)],pV true [(dX .f64),(dI .i64)]]
def Fn86_0 (v:Tf86_0)(α:Type)(k:RT α):Nat->Nat->Int->Nat->Nat->Int->Op α:=fun a b c d e g=>v α a b c d e g (fun h i j l=>ur86_0_0 k h i j l)
def cm86_0g:MCode:=(.seq (.region r86_2 [] (tO [2,3,4])) (.seq (.region r86_4 [] (tO [4,5])) .ret))
def cm86_0:MCode:=cm86_0g
theorem gm86_0:cm86_0.Good Pg E86_0 sh86:=⟨trivial,trivial,trivial⟩
theorem fm86_0g (a:Tf114_2)(α:Type)(k:RT α):Fn86_0 (f86_0g a) α k=pa86_0.unc fun ds=>fnM Pg (E86_0g a) sh86 (cm86_0g ) rs86 k ds:=by kernel_rfl
theorem fm86_0:∀ (α:Type) (k:RT α),Fn86_0 f86_0 α k=pa86_0.unc fun ds=>fnM Pg E86_0 sh86 cm86_0 rs86 k ds:=fm86_0g f114_2
theorem is86:FnIs Pg 86 nt86 tr86 tl86 cm86_0.erase rs86:=⟨Tryz.f86,Tryz.func86,rfl,by kernel_rfl,by kernel_rfl,by kernel_rfl⟩
theorem io86_0:InstOk Pg 86 nt86 ⟨pa86_0,Fn86_0 f86_0⟩:=inst_ok eo86_0 followsTry is86 ⟨⟨sh86,cm86_0,by kernel_rfl,gm86_0,fm86_0⟩⟩
abbrev nt81:Nat:=21
def sh81:SG:=[(8,[.sl]),(10,[.cpx .f64,.int .i64]),(11,[.cpx .f64,.int .i64]),(16,iT)]
def r81_2:LA:=[oO 6 (.alloc [(.d (.v (.complex Go.FloatKind.f64 0 0))),(cI 0)]),mK 7 0]
def r81_4:LA:=[lD 8 2,oM 9 1,oO 10 (.iaddr 2 none (.tmp 8) (.tmp 9)),lA 11 2 10,oM 12 1,oO 13 (.pure (oB (.unOp .neg 3 (.tmp 12)) 3)),oM 14 0,bT 15 .mul 13 14,lD 16 3,oO 17 (.call 55 [(.tmp 15),(.tmp 16)]),oO 18 (.call 82 [(.tmp 11),(.tmp 17)]),oO 19 (.extract 0 (.tmp 18)),oO 20 (.extract 1 (.tmp 18)),sD 2 6 19,oM 7 20]
def tr81:TG:=[tT 0 [0,1,2,3,6],tT 1 [6,7]]
def tl81:TG:=[]
def rs81:List AResV:=[.cell 6 true 2,.tmp 7]
def pr81_0_0:PT (List RV):=pRs [pR true [rD (dX .f64),rD (dI .i64)],wI]
def ur81_0_0 {β:Type}(g:List RV->β):Nat->Nat->Int->Int->β:=pr81_0_0.unc g
def E81_0g (a:Tf55_0)(b:Tf82_0):EnvK:=EnvK.of [⟨55,nt55,[⟨pa55_0,Fn55_0 a⟩]⟩,⟨82,nt82,[⟨pa82_0,Fn82_0 b⟩]⟩] noSeq
def E81_0:EnvK:=E81_0g f55_0 f82_0
theorem eo81_0:E81_0.Ok Pg:=EnvK.of_ok noSeq_ok ⟨⟨io55_0,trivial⟩,⟨io82_0,trivial⟩,trivial⟩
abbrev Tf81_0:Type 1:=(α:Type)->Int->Int->Rows->Int->(Nat->Nat->Int->Int->Op α)->Op α
def f81_0g (b:Tf55_0)(c:Tf82_0)(α:Type)(d a:Int)(e:Rows)(g:Int)(k1:Nat->Nat->Int->Int->Op α):Op α:=
 rowK e a [.cpx .f64,.int .i64]
 (fun h i j=>b α (w64 ((w64 (0 - a))*d)) g
 (fun l m o=>c α h i j l m o
 (fun p q r s=>k1 p q r s)))
def f81_0 (α:Type)(a b:Int)(c:Rows)(d:Int)(k1:Nat->Nat->Int->Int->Op α):Op α:=f81_0g f55_0 f82_0 α a b c d k1
def pa81_0:PT (List DV):=pA [vI,vI,pV false [(dP [dL] 0)],pV false [(dP [(dI .i64)] 0)]]
def Fn81_0 (v:Tf81_0)(α:Type)(k:RT α):Int->Int->Rows->Int->Op α:=fun a b c d=>v α a b c d (fun e g h i=>ur81_0_0 k e g h i)
def cm81_0g:MCode:=(.seq (.region r81_2 [] (tO [0,1,2,3,6])) (.seq (.region r81_4 [(0,9),(2,9),(3,9)] (tO [6,7])) .ret))
def cm81_0:MCode:=cm81_0g
theorem gm81_0:cm81_0.Good Pg E81_0 sh81:=⟨trivial,trivial,trivial⟩
theorem fm81_0g (a:Tf55_0)(b:Tf82_0)(α:Type)(k:RT α):Fn81_0 (f81_0g a b) α k=pa81_0.unc fun ds=>fnM Pg (E81_0g a b) sh81 (cm81_0g ) rs81 k ds:=by kernel_rfl
theorem fm81_0:∀ (α:Type) (k:RT α),Fn81_0 f81_0 α k=pa81_0.unc fun ds=>fnM Pg E81_0 sh81 cm81_0 rs81 k ds:=fm81_0g f55_0 f82_0
theorem is81:FnIs Pg 81 nt81 tr81 tl81 cm81_0.erase rs81:=⟨Tryz.f81,Tryz.func81,rfl,by kernel_rfl,by kernel_rfl,by kernel_rfl⟩
theorem io81_0:InstOk Pg 81 nt81 ⟨pa81_0,Fn81_0 f81_0⟩:=inst_ok eo81_0 followsTry is81 ⟨⟨sh81,cm81_0,by kernel_rfl,gm81_0,fm81_0⟩⟩
abbrev nt104:Nat:=34
def sh104:SG:=[(15,[.bool]),(20,[.cpx .f64,.int .i64]),(21,[.cpx .f64,.int .i64]),(27,[.cpx .f64,.int .i64])]
def r104_2:LA:=[oO 4 (.box (.tmp 1))]
def r104_5:LA:=[oM 7 2,oO 8 (.bin .neq 26 (.tmp 7) (kI 0))]
def r104_7:LA:=[oM 9 0,oO 10 (.nilchk (.tmp 9)),fA 11 2 10,oD (.store 1 (.tmp 11) (.const (.bool true)))]
def r104_10:LA:=[oM 12 0,oO 13 (.nilchk (.tmp 12)),fA 14 2 13,lD 15 14]
def r104_13:LA:=[oM 17 0,oO 18 (.nilchk (.tmp 17)),fA 19 0 18,lA 20 2 19,lA 21 2 4,oO 22 (.call 136 [(.tmp 20),(.tmp 21)]),oM 16 22,oO 23 (.extract 0 (.tmp 16)),oO 24 (.extract 1 (.tmp 16)),oO 6 (.alloc [(.d (.v (.complex Go.FloatKind.f64 0 0))),(cI 0)]),sD 2 6 23,oM 2 24]
def r104_14:LA:=[oM 25 0,oM 26 0,lA 27 2 6,oM 28 2,oO 29 (.bin .neq 26 (.tmp 28) (kI 0)),oO 30 (.nilchk (.tmp 25)),fA 31 0 30,sD 2 31 27,oO 32 (.nilchk (.tmp 26)),fA 33 2 32,sD 1 33 29]
def tr104:TG:=[tT 0 [0,2,4],tT 1 [0,4,8],tT 2 [0,4],tT 3 [0,4,15],tT 4 [0,2,6],tT 5 [0]]
def tl104:TG:=[]
def rs104:List AResV:=[]
def p104_0_0:PT St:=pSv [(0,500000000,0)] [sl 0 (aV false [(cPtr 500000000 0)]),sI 2,sP 4] [eBox 500000000 [(cD (dX .f64)),xI,(cD dB)],eBox 4 [(cD (dX .f64)),xI]]
def u104_0_0 {β:Type}(g:St->β):Int->Nat->Nat->Int->Bool->Nat->Nat->Int->β:=p104_0_0.unc g
def p104_0_1:PT St:=pSv [(0,500000000,0)] [sl 0 (aV false [(cPtr 500000000 0)]),sP 4] [eBox 500000000 [(cD (dX .f64)),xI,(cD dB)],eBox 4 [(cD (dX .f64)),xI]]
def u104_0_1 {β:Type}(g:St->β):Nat->Nat->Int->Bool->Nat->Nat->Int->β:=p104_0_1.unc g
def p104_0_2:PT St:=pSv [(0,500000000,0)] [sl 0 (aV false [(cPtr 500000000 0)]),sP 4,sl 8 (aV false [(cD dB)])] [eBox 500000000 [(cD (dX .f64)),xI,(cD dB)],eBox 4 [(cD (dX .f64)),xI]]
def u104_0_2 {β:Type}(g:St->β):Bool->Nat->Nat->Int->Bool->Nat->Nat->Int->β:=p104_0_2.unc g
def pr104_0_0:PT (List RV):=pRs [pR true [rD (dX .f64),rD (dI .i64),rD dB]]
def ur104_0_0 {β:Type}(g:List RV->β):Nat->Nat->Int->Bool->β:=pr104_0_0.unc g
def E104_0g (a:Tf136_0):EnvK:=EnvK.of [⟨136,nt136,[⟨pa136_0,Fn136_0 a⟩]⟩] noSeq
def E104_0:EnvK:=E104_0g f136_0
theorem eo104_0:E104_0.Ok Pg:=EnvK.of_ok noSeq_ok ⟨⟨io136_0,trivial⟩,trivial⟩
def c104_0_3g:MCode:=(.seq (.region r104_5 [] (tO [0,4,8])) (.cond (.tmp 8) (.region r104_7 [] (tO [0,4])) .skip))
def c104_0_3:MCode:=c104_0_3g
theorem g104_0_3:c104_0_3.Good Pg E104_0 sh104:=⟨trivial,trivial,trivial⟩
abbrev TJ104_0_0:Type 1:=(α:Type)->Int->(Op α)->(Bool->Op α)->Op α
def J104_0_0g (α:Type)(a:Int)(k1:Op α)(k2:Bool->Op α):Op α:=
 cK (a != 0)
 (k1)
 (k2 (a != 0))
def J104_0_0 (α:Type)(a:Int)(k1:Op α)(k2:Bool->Op α):Op α:=J104_0_0g α a k1 k2
def F104_0_0 (v:TJ104_0_0)(α:Type)(K:KT α):Int->Nat->Nat->Int->Bool->Nat->Nat->Int->Op α:=fun h a b c i d e g=>v α h (u104_0_1 (K .normal) a b c true d e g) (fun j=>u104_0_2 (K .normal) j a b c i d e g)
theorem m104_0_0g (a:Tf136_0)(α:Type)(K:KT α):F104_0_0 (J104_0_0g ) α K=p104_0_0.unc fun σ=>runM Pg (E104_0g a) sh104 (c104_0_3g ) K σ:=by kernel_rfl
theorem m104_0_0:∀ (α:Type) (K:KT α),F104_0_0 J104_0_0 α K=p104_0_0.unc fun σ=>runM Pg E104_0 sh104 c104_0_3 K σ:=m104_0_0g f136_0
abbrev Tf104_0:Type 1:=(α:Type)->Nat->Nat->Int->Bool->Nat->Nat->Int->Int->(Nat->Nat->Int->Bool->Op α)->Op α
def f104_0g (e:TJ104_0_0)(g:Tf136_0)(α:Type)(a b:Nat)(c:Int)(d:Bool)(h i:Nat)(j l:Int)(k1:Nat->Nat->Int->Bool->Op α):Op α:=
 e α l
 (k1 a b c true)
 (fun r=>cK d
 (k1 a b c d)
 (g α a b c h i j
 (fun m o p q=>k1 m o p (q != 0))))
def f104_0 (α:Type)(a b:Nat)(c:Int)(d:Bool)(e g:Nat)(h i:Int)(k1:Nat->Nat->Int->Bool->Op α):Op α:=f104_0g J104_0_0 f136_0 α a b c d e g h i k1
def pa104_0:PT (List DV):=pA [pV false [(dMr [(dX .f64),(dI .i64),dB] 0)],pV true [(dX .f64),(dI .i64)],vI]
def Fn104_0 (v:Tf104_0)(α:Type)(k:RT α):Nat->Nat->Int->Bool->Nat->Nat->Int->Int->Op α:=fun a b c d e g h i=>v α a b c d e g h i (fun j l m o=>ur104_0_0 k j l m o)
def cm104_0g (a:TJ104_0_0):MCode:=(.seq (.region r104_2 [] (tO [0,2,4])) (.seq (.mark [⟨p104_0_0,F104_0_0 a⟩] c104_0_3) (.seq (.seq (.region r104_10 [] (tO [0,4,15])) (.cond (.tmp 15) .ret .skip)) (.seq (.region r104_13 [(3,9),(4,9),(5,9)] (tO [0,2,6])) (.region r104_14 [] (tO [0]))))))
def cm104_0:MCode:=cm104_0g J104_0_0
theorem gm104_0:cm104_0.Good Pg E104_0 sh104:=⟨trivial,⟨g104_0_3,m104_0_0,trivial⟩,⟨trivial,trivial,trivial⟩,trivial,trivial⟩
theorem fm104_0g (a:Tf136_0)(b:TJ104_0_0)(α:Type)(k:RT α):Fn104_0 (f104_0g b a) α k=pa104_0.unc fun ds=>fnM Pg (E104_0g a) sh104 (cm104_0g b) rs104 k ds:=by kernel_rfl
theorem fm104_0:∀ (α:Type) (k:RT α),Fn104_0 f104_0 α k=pa104_0.unc fun ds=>fnM Pg E104_0 sh104 cm104_0 rs104 k ds:=fm104_0g f136_0 J104_0_0
theorem is104:FnIs Pg 104 nt104 tr104 tl104 cm104_0.erase rs104:=⟨Tryz.f104,Tryz.func104,rfl,by kernel_rfl,by kernel_rfl,by kernel_rfl⟩
theorem io104_0:InstOk Pg 104 nt104 ⟨pa104_0,Fn104_0 f104_0⟩:=inst_ok eo104_0 followsTry is104 ⟨⟨sh104,cm104_0,by kernel_rfl,gm104_0,fm104_0⟩⟩
abbrev nt53:Nat:=18
def sh53:SG:=[(10,[.sl]),(13,[.sl]),(15,iT),(16,iT)]
def r53_2:LA:=[oO 5 (.alloc [(.d (.v (.complex Go.FloatKind.f64 0 0))),(cI 0)]),mK 6 0]
def r53_4:LA:=[oM 7 0,oM 8 1,bT 9 .mul 7 8,lD 10 2,oO 11 (.len (.tmp 10)),oO 12 (.call 55 [(.tmp 9),(.tmp 11)]),lD 13 2,oM 14 1,oO 15 (.iaddr 1 none (.tmp 13) (.tmp 14)),lD 16 15,oO 17 (.call 54 [(.tmp 12),(.tmp 16)]),sD 2 5 17,mK 6 0]
def tr53:TG:=[tT 0 [0,1,2,5],tT 1 [5,6]]
def tl53:TG:=[]
def rs53:List AResV:=[.cell 5 true 2,.tmp 6]
def pr53_0_0:PT (List RV):=pRs [pR true [rD (dX .f64),rD (dI .i64)],wI]
def ur53_0_0 {β:Type}(g:List RV->β):Nat->Nat->Int->Int->β:=pr53_0_0.unc g
def E53_0g (a:Tf55_0)(b:Tf54_0):EnvK:=EnvK.of [⟨55,nt55,[⟨pa55_0,Fn55_0 a⟩]⟩,⟨54,nt54,[⟨pa54_0,Fn54_0 b⟩]⟩] noSeq
def E53_0:EnvK:=E53_0g f55_0 f54_0
theorem eo53_0:E53_0.Ok Pg:=EnvK.of_ok noSeq_ok ⟨⟨io55_0,trivial⟩,⟨io54_0,trivial⟩,trivial⟩
abbrev Tf53_0:Type 1:=(α:Type)->Int->Int->Rows->(Nat->Nat->Int->Op α)->Op α
def f53_0g (c:Tf54_0)(d:Tf55_0)(α:Type)(e a:Int)(b:Rows)(k1:Nat->Nat->Int->Op α):Op α:=
 d α (w64 (e*a)) ((List.length b:Nat):Int)
 (fun g h i=>rowK b a [.int .i64]
 (fun j=>c α g h i j
 (fun l m o=>k1 l m o)))
def f53_0 (α:Type)(a b:Int)(c:Rows)(k1:Nat->Nat->Int->Op α):Op α:=f53_0g f54_0 f55_0 α a b c k1
def pa53_0:PT (List DV):=pA [vI,vI,pV false [(dP [dL] 0)]]
def Fn53_0 (v:Tf53_0)(α:Type)(k:RT α):Int->Int->Rows->Op α:=fun a b c=>v α a b c (fun d e g=>ur53_0_0 k d e g 0)
def cm53_0g:MCode:=(.seq (.region r53_2 [] (tO [0,1,2,5])) (.seq (.region r53_4 [(5,6),(5,8),(5,9)] (tO [5,6])) .ret))
def cm53_0:MCode:=cm53_0g
theorem gm53_0:cm53_0.Good Pg E53_0 sh53:=⟨trivial,trivial,trivial⟩
theorem fm53_0g (a:Tf55_0)(b:Tf54_0)(α:Type)(k:RT α):Fn53_0 (f53_0g b a) α k=pa53_0.unc fun ds=>fnM Pg (E53_0g a b) sh53 (cm53_0g ) rs53 k ds:=by kernel_rfl
theorem fm53_0:∀ (α:Type) (k:RT α),Fn53_0 f53_0 α k=pa53_0.unc fun ds=>fnM Pg E53_0 sh53 cm53_0 rs53 k ds:=fm53_0g f55_0 f54_0
theorem is53:FnIs Pg 53 nt53 tr53 tl53 cm53_0.erase rs53:=⟨Tryz.f53,Tryz.func53,rfl,by kernel_rfl,by kernel_rfl,by kernel_rfl⟩
theorem io53_0:InstOk Pg 53 nt53 ⟨pa53_0,Fn53_0 f53_0⟩:=inst_ok eo53_0 followsTry is53 ⟨⟨sh53,cm53_0,by kernel_rfl,gm53_0,fm53_0⟩⟩
abbrev nt52:Nat:=35
def sh52:SG:=[(27,[.bool]),(30,[.cpx .f64,.int .i64])]
def r52_2:LA:=[oO 4 (.mv (.const (.slice none 0 0))),oO 5 (.mv (.const (.bool false)))]
def r52_4:LA:=[oO 6 (.mv (.const (.slice none 0 0)))]
def r52_7:LA:=[oM 10 0,mK 11 0]
def td52_9:OT:=(some ⟨[0,1,6,10,11],true,[⟨false,6,0,20006,2⟩],[]⟩)
def r52_11:LA:=[bT 12 .lss 11 10]
def r52_17:LA:=[oM 13 11,oM 7 13]
def r52_19:LA:=[oO 8 (.alloc [(.d (.v (.complex Go.FloatKind.f64 0 0))),(cI 0),(.d (.v (.bool false)))])]
def r52_22:LA:=[oM 14 0,mK 15 0]
def td52_24:OT:=(some ⟨[0,1,6,7,8,10,11,14,15],true,[⟨false,6,0,20006,2⟩],[]⟩)
def r52_26:LA:=[bT 16 .lss 15 14]
def r52_32:LA:=[oM 17 15,oM 9 17]
def r52_33:LA:=[oM 18 1,oM 19 7,oM 20 9,oO 21 (.calld (.tmp 18) [(.tmp 19),(.tmp 20)]),oO 22 (.extract 0 (.tmp 21)),oO 23 (.extract 1 (.tmp 21)),oO 24 (.call 104 [(.tmp 8),(.tmp 22),(.tmp 23)])]
def r52_34:LA:=[bK 25 .add 15 1,oM 15 25]
def r52_37:LA:=[fA 26 2 8,lD 27 26]
def r52_40:LA:=[oO 4 (.mv (.const (.slice none 0 0))),oO 5 (.mv (.const (.bool false)))]
def r52_41:LA:=[oM 28 6,fA 29 0 8,lA 30 2 29,oO 31 (.bslice 2 1 [(.v (.complex Go.FloatKind.f64 0 0)),(.v (.int .i64 0))] [(0,(.tmp 30))]),oO 32 (.append 2 24 (.tmp 28) (.tmp 31)),oM 6 32]
def r52_42:LA:=[bK 33 .add 11 1,oM 11 33]
def r52_44:LA:=[oM 34 6,oM 4 34,oO 5 (.mv (.const (.bool true)))]
def tr52:TG:=[tT 0 [0,1],tT 1 [0,1,6],tT 2 [0,1,6,10,11],tT 3 [0,1,6,10,11,12],tT 4 [0,1,6,7,10,11],tT 5 [0,1,6,7,8,10,11],tT 6 [0,1,6,7,8,10,11,14,15],tT 7 [0,1,6,7,8,10,11,14,15,16],tT 8 [0,1,6,7,8,9,10,11,14,15],tT 9 [0,1,6,7,8,10,11,14,15],tT 10 [0,1,6,7,8,10,11,14,15],tT 11 [0,1,6,8,10,11,27],(12,⟨[4,5],true,[⟨false,4,0,20004,2⟩],[]⟩),tT 13 [0,1,6,10,11],tT 14 [0,1,6,10,11],(15,⟨[4,5],true,[⟨false,4,0,20004,2⟩],[]⟩)]
def tl52:TG:=[(3,⟨[0,1,6,10,11],true,[⟨false,6,0,20006,2⟩],[]⟩),(7,⟨[0,1,6,7,8,10,11,14,15],true,[⟨false,6,0,20006,2⟩],[]⟩)]
def rs52:List AResV:=[.tmp 4,.tmp 5]
def p52_0_0:PT St:=pS [sI 0,sl 1 (aV false [(cD (dFn 53 [(dP [dL] 0)]))]),sl 6 (aV false [(cRef 20006)]),sI 7,sP 8,sI 10,sI 11,sI 14,sI 15] [eOwn 20006 2,eBox 8 [(cD (dX .f64)),xI,(cD dB)]]
def u52_0_0 {β:Type}(g:St->β):Int->Rows->Int->Int->Int->Int->Int->Rows->Nat->Nat->Int->Bool->β:=p52_0_0.unc g
def p52_0_1:PT St:=pS [sI 0,sl 1 (aV false [(cD (dFn 53 [(dP [dL] 0)]))]),sl 6 (aV false [(cRef 20006)]),sI 7,sP 8,sI 10,sI 11,sI 14,sI 15,sl 16 (aV false [(cD dB)])] [eOwn 20006 2,eBox 8 [(cD (dX .f64)),xI,(cD dB)]]
def u52_0_1 {β:Type}(g:St->β):Int->Rows->Int->Int->Int->Int->Int->Bool->Rows->Nat->Nat->Int->Bool->β:=p52_0_1.unc g
def p52_0_2:PT St:=pS [sI 0,sl 1 (aV false [(cD (dFn 53 [(dP [dL] 0)]))]),sl 6 (aV false [(cRef 20006)]),sI 10,sI 11] [eOwn 20006 2]
def u52_0_2 {β:Type}(g:St->β):Int->Rows->Int->Int->Rows->β:=p52_0_2.unc g
def p52_0_3:PT St:=pS [sl 4 (aV false [(cRef 20004)]),sl 5 (aV false [(cD dB)])] [eOwn 20004 2]
def u52_0_3 {β:Type}(g:St->β):Bool->Rows->β:=p52_0_3.unc g
def p52_0_4:PT St:=pS [sI 0,sl 1 (aV false [(cD (dFn 53 [(dP [dL] 0)]))]),sl 6 (aV false [(cRef 20006)]),sI 10,sI 11,sl 12 (aV false [(cD dB)])] [eOwn 20006 2]
def u52_0_4 {β:Type}(g:St->β):Int->Rows->Int->Int->Bool->Rows->β:=p52_0_4.unc g
def pr52_0_0:PT (List RV):=pRs [pR false [rO 2],pR false [rD dB]]
def ur52_0_0 {β:Type}(g:List RV->β):Rows->Bool->β:=pr52_0_0.unc g
def E52_0g (a:Tf53_0)(b:Tf104_0):EnvK:=EnvK.ofIO [⟨53,nt53,[⟨pa53_0,Fn53_0 a⟩]⟩,⟨104,nt104,[⟨pa104_0,Fn104_0 b⟩]⟩] noSeq [(104,[0])]
def E52_0:EnvK:=E52_0g f53_0 f104_0
theorem eo52_0:E52_0.Ok Pg:=EnvK.ofIO_ok noSeq_ok ⟨⟨io53_0,trivial⟩,⟨io104_0,trivial⟩,trivial⟩
def c52_0_24g:MCode:=(.seq (.region r52_26 [] (tO [0,1,6,7,8,10,11,14,15,16])) (.seq (.cond (.tmp 16) .skip (.exit 2)) (.seq (.block 3 (.seq (.region r52_32 [] (tO [0,1,6,7,8,9,10,11,14,15])) (.region r52_33 [] (tO [0,1,6,7,8,10,11,14,15])))) (.region r52_34 [] (tO [0,1,6,7,8,10,11,14,15])))))
def c52_0_24:MCode:=c52_0_24g
theorem g52_0_24:c52_0_24.Good Pg E52_0 sh52:=⟨trivial,⟨trivial,trivial⟩,⟨trivial,trivial⟩,trivial⟩
def S52_0_0g (h:Tf104_0)(i:Tf53_0)(α:Type)(j:Rows)(l b a:Int)(c d:Nat)(e:Int)(g:Bool)(kn:Int->Nat->Nat->Int->Bool->Op α)(k1:Int->Bool->Nat->Nat->Int->Bool->Op α):Op α:=
 cK (decide (a < b))
 (i α l a j
 (fun m o p=>h α c d e g m o p 0
 (fun q r s t=>kn (w64 (a+1)) q r s t)))
 (k1 a (decide (a < b)) c d e g)
def S52_0_0 (α:Type)(a:Rows)(b c d:Int)(e g:Nat)(h:Int)(i:Bool)(kn:Int->Nat->Nat->Int->Bool->Op α)(k1:Int->Bool->Nat->Nat->Int->Bool->Op α):Op α:=S52_0_0g f104_0 f53_0 α a b c d e g h i kn k1
def R52_0_0 (α:Type)(a:Rows)(b c:Int)(k1:Int->Bool->Nat->Nat->Int->Bool->Op α):Nat->Int->Nat->Nat->Int->Bool->Op α
 | 0,_,_,_,_,_=>none
 | n+1,d,e,g,h,i=>S52_0_0 α a b c d e g h i (R52_0_0 α a b c k1 n) k1
def L52_0_0 (α:Type)(a:Rows)(b c:Int)(k1:Int->Bool->Nat->Nat->Int->Bool->Op α)(d:Int)(e g:Nat)(h:Int)(i:Bool):Op α:=R52_0_0 α a b c k1 fuel d e g h i
abbrev TL52_0_0:Type 1:=(α:Type)->Rows->Int->Int->(Int->Bool->Nat->Nat->Int->Bool->Op α)->Int->Nat->Nat->Int->Bool->Op α
def F52_0_0 (v:TL52_0_0)(α:Type)(K:KT α):Int->Rows->Int->Int->Int->Int->Int->Rows->Nat->Nat->Int->Bool->Op α:=fun d a b e g c h i j l m o=>v α a b c (fun p q r s t w=>u52_0_1 (K (.exit 2)) d a b e g c p q i r s t w) h j l m o
theorem r52_0_0g (p:Tf53_0)(q:Tf104_0)(α:Type)(K:KT α)(Kn:SK α)(j:Int)(a:Rows)(b l m c d:Int)(o:Rows)(e g:Nat)(h:Int)(i:Bool):u52_0_0 (fun σ=>runM Pg (E52_0g p q) sh52 (c52_0_24g ) (thenK (fun σ=>tidyK td52_24 σ Kn) K) σ) j a b l m c d o e g h i=S52_0_0g q p α a b c d e g h i (fun d e g h i=>u52_0_0 Kn j a b l m c d o e g h i) (fun r s t w z A=>u52_0_1 (K (.exit 2)) j a b l m c r s o t w z A):=by kernel_rfl
theorem r52_0_0 (α:Type)(K:KT α)(Kn:SK α)(j:Int)(a:Rows)(b l m c d:Int)(o:Rows)(e g:Nat)(h:Int)(i:Bool):u52_0_0 (fun σ=>runM Pg E52_0 sh52 c52_0_24 (thenK (fun σ=>tidyK td52_24 σ Kn) K) σ) j a b l m c d o e g h i=S52_0_0 α a b c d e g h i (fun d e g h i=>u52_0_0 Kn j a b l m c d o e g h i) (fun p q r s t w=>u52_0_1 (K (.exit 2)) j a b l m c p q o r s t w):=r52_0_0g f53_0 f104_0 α K Kn j a b l m c d o e g h i
theorem t52_0_0 (α:Type)(K:KT α):∀ (n:Nat) (j:Int) (a:Rows) (b l m c d:Int) (o:Rows) (e g:Nat) (h:Int) (i:Bool),R52_0_0 α a b c (fun p q r s t w=>u52_0_1 (K (.exit 2)) j a b l m c p q o r s t w) n d e g h i=u52_0_0 (loopT (runM Pg E52_0 sh52 c52_0_24) td52_24 K n) j a b l m c d o e g h i:=by
 intro n
 induction n with
 | zero=>intros;rfl
 | succ n ih=>intro j a b l m c d o e g h i;exact (congrArg (fun kn=>S52_0_0 α a b c d e g h i kn (fun p q r s t w=>u52_0_1 (K (.exit 2)) j a b l m c p q o r s t w)) (funext fun d=>funext fun e=>funext fun g=>funext fun h=>funext fun i=>ih j a b l m c d o e g h i)).trans (r52_0_0 α K (loopT (runM Pg E52_0 sh52 c52_0_24) td52_24 K n) j a b l m c d o e g h i).symm
theorem m52_0_0:∀ (α:Type) (K:KT α),F52_0_0 L52_0_0 α K=p52_0_0.unc fun σ=>loopT (runM Pg E52_0 sh52 c52_0_24) td52_24 K fuel σ:=fun α K=>by funext a b c d e g h i j l m o;exact t52_0_0 α K fuel a b c d e g h i j l m o
def c52_0_9g (a:TL52_0_0):MCode:=(.seq (.region r52_11 [] (tO [0,1,6,10,11,12])) (.seq (.cond (.tmp 12) .skip (.exit 0)) (.seq (.block 1 (.seq (.region r52_17 [] (tO [0,1,6,7,10,11])) (.seq (.region r52_19 [] (tO [0,1,6,7,8,10,11])) (.seq (.seq (.region r52_22 [] (tO [0,1,6,7,8,10,11,14,15])) (.block 2 (.loop td52_24 [⟨p52_0_0,F52_0_0 a⟩] c52_0_24))) (.seq (.seq (.region r52_37 [] (tO [0,1,6,8,10,11,27])) (.cond (.tmp 27) (.seq (.region r52_40 [] (some ⟨[4,5],true,[⟨false,4,0,20004,2⟩],[]⟩)) .ret) .skip)) (.region r52_41 [] (tO [0,1,6,10,11]))))))) (.region r52_42 [] (tO [0,1,6,10,11])))))
def c52_0_9:MCode:=c52_0_9g L52_0_0
theorem g52_0_9:c52_0_9.Good Pg E52_0 sh52:=⟨trivial,⟨trivial,trivial⟩,⟨trivial,trivial,⟨trivial,g52_0_24,m52_0_0,trivial⟩,⟨trivial,⟨trivial,trivial⟩,trivial⟩,trivial⟩,trivial⟩
def S52_0_1g (h:TL52_0_0)(α:Type)(i:Int)(j:Rows)(c a:Int)(b:Rows)(kn:Int->Rows->Op α)(k1:Op α)(k2:Int->Bool->Rows->Op α):Op α:=
 cK (decide (a < c))
 (h α j a i
 (fun m o d e g l=>cK l
 (k1)
 (gK (apOk 2 24 b [[DC.v (.complex .f64 d e),DC.v (.int .i64 g)]]) (kn (w64 (a+1)) (b++[[DC.v (.complex .f64 d e),DC.v (.int .i64 g)]])))) 0 0 0 0 false)
 (k2 a (decide (a < c)) b)
def S52_0_1 (α:Type)(a:Int)(b:Rows)(c d:Int)(e:Rows)(kn:Int->Rows->Op α)(k1:Op α)(k2:Int->Bool->Rows->Op α):Op α:=S52_0_1g L52_0_0 α a b c d e kn k1 k2
def R52_0_1 (α:Type)(a:Int)(b:Rows)(c:Int)(k1:Op α)(k2:Int->Bool->Rows->Op α):Nat->Int->Rows->Op α
 | 0,_,_=>none
 | n+1,d,e=>S52_0_1 α a b c d e (R52_0_1 α a b c k1 k2 n) k1 k2
def L52_0_1 (α:Type)(a:Int)(b:Rows)(c:Int)(k1:Op α)(k2:Int->Bool->Rows->Op α)(d:Int)(e:Rows):Op α:=R52_0_1 α a b c k1 k2 fuel d e
abbrev TL52_0_1:Type 1:=(α:Type)->Int->Rows->Int->(Op α)->(Int->Bool->Rows->Op α)->Int->Rows->Op α
def F52_0_1 (v:TL52_0_1)(α:Type)(K:KT α):Int->Rows->Int->Int->Rows->Op α:=fun a b c d e=>v α a b c (u52_0_3 (K .ret) false ([]:Rows)) (fun g h i=>u52_0_4 (K (.exit 0)) a b c g h i) d e
theorem r52_0_1g (h:Tf53_0)(i:Tf104_0)(g:TL52_0_0)(α:Type)(K:KT α)(Kn:SK α)(a:Int)(b:Rows)(c d:Int)(e:Rows):u52_0_2 (fun σ=>runM Pg (E52_0g h i) sh52 (c52_0_9g g) (thenK (fun σ=>tidyK td52_9 σ Kn) K) σ) a b c d e=S52_0_1g g α a b c d e (fun d e=>u52_0_2 Kn a b c d e) (u52_0_3 (K .ret) false ([]:Rows)) (fun j l m=>u52_0_4 (K (.exit 0)) a b c j l m):=by kernel_rfl
theorem r52_0_1 (α:Type)(K:KT α)(Kn:SK α)(a:Int)(b:Rows)(c d:Int)(e:Rows):u52_0_2 (fun σ=>runM Pg E52_0 sh52 c52_0_9 (thenK (fun σ=>tidyK td52_9 σ Kn) K) σ) a b c d e=S52_0_1 α a b c d e (fun d e=>u52_0_2 Kn a b c d e) (u52_0_3 (K .ret) false ([]:Rows)) (fun g h i=>u52_0_4 (K (.exit 0)) a b c g h i):=r52_0_1g f53_0 f104_0 L52_0_0 α K Kn a b c d e
theorem t52_0_1 (α:Type)(K:KT α):∀ (n:Nat) (a:Int) (b:Rows) (c d:Int) (e:Rows),R52_0_1 α a b c (u52_0_3 (K .ret) false ([]:Rows)) (fun g h i=>u52_0_4 (K (.exit 0)) a b c g h i) n d e=u52_0_2 (loopT (runM Pg E52_0 sh52 c52_0_9) td52_9 K n) a b c d e:=by
 intro n
 induction n with
 | zero=>intros;rfl
 | succ n ih=>intro a b c d e;exact (congrArg (fun kn=>S52_0_1 α a b c d e kn (u52_0_3 (K .ret) false ([]:Rows)) (fun g h i=>u52_0_4 (K (.exit 0)) a b c g h i)) (funext fun d=>funext fun e=>ih a b c d e)).trans (r52_0_1 α K (loopT (runM Pg E52_0 sh52 c52_0_9) td52_9 K n) a b c d e).symm
theorem m52_0_1:∀ (α:Type) (K:KT α),F52_0_1 L52_0_1 α K=p52_0_2.unc fun σ=>loopT (runM Pg E52_0 sh52 c52_0_9) td52_9 K fuel σ:=fun α K=>by funext a b c d e;exact t52_0_1 α K fuel a b c d e
abbrev Tf52_0:Type 1:=(α:Type)->Int->Rows->(Rows->Bool->Op α)->Op α
def f52_0g (b:TL52_0_1)(α:Type)(a:Int)(c:Rows)(k1:Rows->Bool->Op α):Op α:=
 b α a c a
 (k1 ([]:Rows) false)
 (fun e g d=>k1 d true) 0 ([]:Rows)
def f52_0 (α:Type)(a:Int)(b:Rows)(k1:Rows->Bool->Op α):Op α:=f52_0g L52_0_1 α a b k1
def pa52_0:PT (List DV):=pA [vI,pV false [(dFn 53 [(dP [dL] 0)])]]
def Fn52_0 (v:Tf52_0)(α:Type)(k:RT α):Int->Rows->Op α:=fun a b=>v α a b (fun c d=>ur52_0_0 k c d)
def cm52_0g (a:TL52_0_1):MCode:=(.seq (.region r52_2 [] (tO [0,1])) (.seq (.region r52_4 [] (tO [0,1,6])) (.seq (.seq (.region r52_7 [] (tO [0,1,6,10,11])) (.block 0 (.loop td52_9 [⟨p52_0_2,F52_0_1 a⟩] c52_0_9))) (.seq (.region r52_44 [] (some ⟨[4,5],true,[⟨false,4,0,20004,2⟩],[]⟩)) .ret))))
def cm52_0:MCode:=cm52_0g L52_0_1
theorem gm52_0:cm52_0.Good Pg E52_0 sh52:=⟨trivial,trivial,⟨trivial,g52_0_9,m52_0_1,trivial⟩,trivial,trivial⟩
theorem fm52_0g (b:Tf53_0)(c:Tf104_0)(a:TL52_0_1)(α:Type)(k:RT α):Fn52_0 (f52_0g a) α k=pa52_0.unc fun ds=>fnM Pg (E52_0g b c) sh52 (cm52_0g a) rs52 k ds:=by kernel_rfl
theorem fm52_0:∀ (α:Type) (k:RT α),Fn52_0 f52_0 α k=pa52_0.unc fun ds=>fnM Pg E52_0 sh52 cm52_0 rs52 k ds:=fm52_0g f53_0 f104_0 L52_0_1
theorem is52:FnIs Pg 52 nt52 tr52 tl52 cm52_0.erase rs52:=⟨Tryz.f52,Tryz.func52,rfl,by kernel_rfl,by kernel_rfl,by kernel_rfl⟩
theorem io52_0:InstOk Pg 52 nt52 ⟨pa52_0,Fn52_0 f52_0⟩:=inst_ok eo52_0 followsTry is52 ⟨⟨sh52,cm52_0,by kernel_rfl,gm52_0,fm52_0⟩⟩
def p52_1_0:PT St:=pS [sI 0,sl 1 (aV false [(cD (dFn 81 [(dP [dL] 0),(dP [(dI .i64)] 0)]))]),sl 6 (aV false [(cRef 20006)]),sI 7,sP 8,sI 10,sI 11,sI 14,sI 15] [eOwn 20006 2,eBox 8 [(cD (dX .f64)),xI,(cD dB)]]
def u52_1_0 {β:Type}(g:St->β):Int->Rows->Int->Int->Int->Int->Int->Int->Rows->Nat->Nat->Int->Bool->β:=p52_1_0.unc g
def p52_1_1:PT St:=pS [sI 0,sl 1 (aV false [(cD (dFn 81 [(dP [dL] 0),(dP [(dI .i64)] 0)]))]),sl 6 (aV false [(cRef 20006)]),sI 7,sP 8,sI 10,sI 11,sI 14,sI 15,sl 16 (aV false [(cD dB)])] [eOwn 20006 2,eBox 8 [(cD (dX .f64)),xI,(cD dB)]]
def u52_1_1 {β:Type}(g:St->β):Int->Rows->Int->Int->Int->Int->Int->Int->Bool->Rows->Nat->Nat->Int->Bool->β:=p52_1_1.unc g
def p52_1_2:PT St:=pS [sI 0,sl 1 (aV false [(cD (dFn 81 [(dP [dL] 0),(dP [(dI .i64)] 0)]))]),sl 6 (aV false [(cRef 20006)]),sI 10,sI 11] [eOwn 20006 2]
def u52_1_2 {β:Type}(g:St->β):Int->Rows->Int->Int->Int->Rows->β:=p52_1_2.unc g
def p52_1_3:PT St:=pS [sl 4 (aV false [(cRef 20004)]),sl 5 (aV false [(cD dB)])] [eOwn 20004 2]
def u52_1_3 {β:Type}(g:St->β):Bool->Rows->β:=p52_1_3.unc g
def p52_1_4:PT St:=pS [sI 0,sl 1 (aV false [(cD (dFn 81 [(dP [dL] 0),(dP [(dI .i64)] 0)]))]),sl 6 (aV false [(cRef 20006)]),sI 10,sI 11,sl 12 (aV false [(cD dB)])] [eOwn 20006 2]
def u52_1_4 {β:Type}(g:St->β):Int->Rows->Int->Int->Int->Bool->Rows->β:=p52_1_4.unc g
def pr52_1_0:PT (List RV):=pRs [pR false [rO 2],pR false [rD dB]]
def ur52_1_0 {β:Type}(g:List RV->β):Rows->Bool->β:=pr52_1_0.unc g
def E52_1g (a:Tf81_0)(b:Tf104_0):EnvK:=EnvK.ofIO [⟨81,nt81,[⟨pa81_0,Fn81_0 a⟩]⟩,⟨104,nt104,[⟨pa104_0,Fn104_0 b⟩]⟩] noSeq [(104,[0])]
def E52_1:EnvK:=E52_1g f81_0 f104_0
theorem eo52_1:E52_1.Ok Pg:=EnvK.ofIO_ok noSeq_ok ⟨⟨io81_0,trivial⟩,⟨io104_0,trivial⟩,trivial⟩
def c52_1_24g:MCode:=(.seq (.region r52_26 [] (tO [0,1,6,7,8,10,11,14,15,16])) (.seq (.cond (.tmp 16) .skip (.exit 2)) (.seq (.block 3 (.seq (.region r52_32 [] (tO [0,1,6,7,8,9,10,11,14,15])) (.region r52_33 [] (tO [0,1,6,7,8,10,11,14,15])))) (.region r52_34 [] (tO [0,1,6,7,8,10,11,14,15])))))
def c52_1_24:MCode:=c52_1_24g
theorem g52_1_24:c52_1_24.Good Pg E52_1 sh52:=⟨trivial,⟨trivial,trivial⟩,⟨trivial,trivial⟩,trivial⟩
def S52_1_0g (h:Tf104_0)(i:Tf81_0)(α:Type)(j:Rows)(l m b a:Int)(c d:Nat)(e:Int)(g:Bool)(kn:Int->Nat->Nat->Int->Bool->Op α)(k1:Int->Bool->Nat->Nat->Int->Bool->Op α):Op α:=
 cK (decide (a < b))
 (i α m a j l
 (fun o p q r=>h α c d e g o p q r
 (fun s t w z=>kn (w64 (a+1)) s t w z)))
 (k1 a (decide (a < b)) c d e g)
def S52_1_0 (α:Type)(a:Rows)(b c d e:Int)(g h:Nat)(i:Int)(j:Bool)(kn:Int->Nat->Nat->Int->Bool->Op α)(k1:Int->Bool->Nat->Nat->Int->Bool->Op α):Op α:=S52_1_0g f104_0 f81_0 α a b c d e g h i j kn k1
def R52_1_0 (α:Type)(a:Rows)(b c d:Int)(k1:Int->Bool->Nat->Nat->Int->Bool->Op α):Nat->Int->Nat->Nat->Int->Bool->Op α
 | 0,_,_,_,_,_=>none
 | n+1,e,g,h,i,j=>S52_1_0 α a b c d e g h i j (R52_1_0 α a b c d k1 n) k1
def L52_1_0 (α:Type)(a:Rows)(b c d:Int)(k1:Int->Bool->Nat->Nat->Int->Bool->Op α)(e:Int)(g h:Nat)(i:Int)(j:Bool):Op α:=R52_1_0 α a b c d k1 fuel e g h i j
abbrev TL52_1_0:Type 1:=(α:Type)->Rows->Int->Int->Int->(Int->Bool->Nat->Nat->Int->Bool->Op α)->Int->Nat->Nat->Int->Bool->Op α
def F52_1_0 (v:TL52_1_0)(α:Type)(K:KT α):Int->Rows->Int->Int->Int->Int->Int->Int->Rows->Nat->Nat->Int->Bool->Op α:=fun e a b c g h d i j l m o p=>v α a b c d (fun q r s t w z=>u52_1_1 (K (.exit 2)) e a b c g h d q r j s t w z) i l m o p
theorem r52_1_0g (q:Tf81_0)(r:Tf104_0)(α:Type)(K:KT α)(Kn:SK α)(l:Int)(a:Rows)(b c m o d e:Int)(p:Rows)(g h:Nat)(i:Int)(j:Bool):u52_1_0 (fun σ=>runM Pg (E52_1g q r) sh52 (c52_1_24g ) (thenK (fun σ=>tidyK td52_24 σ Kn) K) σ) l a b c m o d e p g h i j=S52_1_0g r q α a b c d e g h i j (fun e g h i j=>u52_1_0 Kn l a b c m o d e p g h i j) (fun s t w z A B=>u52_1_1 (K (.exit 2)) l a b c m o d s t p w z A B):=by kernel_rfl
theorem r52_1_0 (α:Type)(K:KT α)(Kn:SK α)(l:Int)(a:Rows)(b c m o d e:Int)(p:Rows)(g h:Nat)(i:Int)(j:Bool):u52_1_0 (fun σ=>runM Pg E52_1 sh52 c52_1_24 (thenK (fun σ=>tidyK td52_24 σ Kn) K) σ) l a b c m o d e p g h i j=S52_1_0 α a b c d e g h i j (fun e g h i j=>u52_1_0 Kn l a b c m o d e p g h i j) (fun q r s t w z=>u52_1_1 (K (.exit 2)) l a b c m o d q r p s t w z):=r52_1_0g f81_0 f104_0 α K Kn l a b c m o d e p g h i j
theorem t52_1_0 (α:Type)(K:KT α):∀ (n:Nat) (l:Int) (a:Rows) (b c m o d e:Int) (p:Rows) (g h:Nat) (i:Int) (j:Bool),R52_1_0 α a b c d (fun q r s t w z=>u52_1_1 (K (.exit 2)) l a b c m o d q r p s t w z) n e g h i j=u52_1_0 (loopT (runM Pg E52_1 sh52 c52_1_24) td52_24 K n) l a b c m o d e p g h i j:=by
 intro n
 induction n with
 | zero=>intros;rfl
 | succ n ih=>intro l a b c m o d e p g h i j;exact (congrArg (fun kn=>S52_1_0 α a b c d e g h i j kn (fun q r s t w z=>u52_1_1 (K (.exit 2)) l a b c m o d q r p s t w z)) (funext fun e=>funext fun g=>funext fun h=>funext fun i=>funext fun j=>ih l a b c m o d e p g h i j)).trans (r52_1_0 α K (loopT (runM Pg E52_1 sh52 c52_1_24) td52_24 K n) l a b c m o d e p g h i j).symm
theorem m52_1_0:∀ (α:Type) (K:KT α),F52_1_0 L52_1_0 α K=p52_1_0.unc fun σ=>loopT (runM Pg E52_1 sh52 c52_1_24) td52_24 K fuel σ:=fun α K=>by funext a b c d e g h i j l m o p;exact t52_1_0 α K fuel a b c d e g h i j l m o p
def c52_1_9g (a:TL52_1_0):MCode:=(.seq (.region r52_11 [] (tO [0,1,6,10,11,12])) (.seq (.cond (.tmp 12) .skip (.exit 0)) (.seq (.block 1 (.seq (.region r52_17 [] (tO [0,1,6,7,10,11])) (.seq (.region r52_19 [] (tO [0,1,6,7,8,10,11])) (.seq (.seq (.region r52_22 [] (tO [0,1,6,7,8,10,11,14,15])) (.block 2 (.loop td52_24 [⟨p52_1_0,F52_1_0 a⟩] c52_1_24))) (.seq (.seq (.region r52_37 [] (tO [0,1,6,8,10,11,27])) (.cond (.tmp 27) (.seq (.region r52_40 [] (some ⟨[4,5],true,[⟨false,4,0,20004,2⟩],[]⟩)) .ret) .skip)) (.region r52_41 [] (tO [0,1,6,10,11]))))))) (.region r52_42 [] (tO [0,1,6,10,11])))))
def c52_1_9:MCode:=c52_1_9g L52_1_0
theorem g52_1_9:c52_1_9.Good Pg E52_1 sh52:=⟨trivial,⟨trivial,trivial⟩,⟨trivial,trivial,⟨trivial,g52_1_24,m52_1_0,trivial⟩,⟨trivial,⟨trivial,trivial⟩,trivial⟩,trivial⟩,trivial⟩
def S52_1_1g (h:TL52_1_0)(α:Type)(i:Int)(j:Rows)(l c a:Int)(b:Rows)(kn:Int->Rows->Op α)(k1:Op α)(k2:Int->Bool->Rows->Op α):Op α:=
 cK (decide (a < c))
 (h α j l a i
 (fun o p d e g m=>cK m
 (k1)
 (gK (apOk 2 24 b [[DC.v (.complex .f64 d e),DC.v (.int .i64 g)]]) (kn (w64 (a+1)) (b++[[DC.v (.complex .f64 d e),DC.v (.int .i64 g)]])))) 0 0 0 0 false)
 (k2 a (decide (a < c)) b)
def S52_1_1 (α:Type)(a:Int)(b:Rows)(c d e:Int)(g:Rows)(kn:Int->Rows->Op α)(k1:Op α)(k2:Int->Bool->Rows->Op α):Op α:=S52_1_1g L52_1_0 α a b c d e g kn k1 k2
def R52_1_1 (α:Type)(a:Int)(b:Rows)(c d:Int)(k1:Op α)(k2:Int->Bool->Rows->Op α):Nat->Int->Rows->Op α
 | 0,_,_=>none
 | n+1,e,g=>S52_1_1 α a b c d e g (R52_1_1 α a b c d k1 k2 n) k1 k2
def L52_1_1 (α:Type)(a:Int)(b:Rows)(c d:Int)(k1:Op α)(k2:Int->Bool->Rows->Op α)(e:Int)(g:Rows):Op α:=R52_1_1 α a b c d k1 k2 fuel e g
abbrev TL52_1_1:Type 1:=(α:Type)->Int->Rows->Int->Int->(Op α)->(Int->Bool->Rows->Op α)->Int->Rows->Op α
def F52_1_1 (v:TL52_1_1)(α:Type)(K:KT α):Int->Rows->Int->Int->Int->Rows->Op α:=fun a b c d e g=>v α a b c d (u52_1_3 (K .ret) false ([]:Rows)) (fun h i j=>u52_1_4 (K (.exit 0)) a b c d h i j) e g
theorem r52_1_1g (i:Tf81_0)(j:Tf104_0)(h:TL52_1_0)(α:Type)(K:KT α)(Kn:SK α)(a:Int)(b:Rows)(c d e:Int)(g:Rows):u52_1_2 (fun σ=>runM Pg (E52_1g i j) sh52 (c52_1_9g h) (thenK (fun σ=>tidyK td52_9 σ Kn) K) σ) a b c d e g=S52_1_1g h α a b c d e g (fun e g=>u52_1_2 Kn a b c d e g) (u52_1_3 (K .ret) false ([]:Rows)) (fun l m o=>u52_1_4 (K (.exit 0)) a b c d l m o):=by kernel_rfl
theorem r52_1_1 (α:Type)(K:KT α)(Kn:SK α)(a:Int)(b:Rows)(c d e:Int)(g:Rows):u52_1_2 (fun σ=>runM Pg E52_1 sh52 c52_1_9 (thenK (fun σ=>tidyK td52_9 σ Kn) K) σ) a b c d e g=S52_1_1 α a b c d e g (fun e g=>u52_1_2 Kn a b c d e g) (u52_1_3 (K .ret) false ([]:Rows)) (fun h i j=>u52_1_4 (K (.exit 0)) a b c d h i j):=r52_1_1g f81_0 f104_0 L52_1_0 α K Kn a b c d e g
theorem t52_1_1 (α:Type)(K:KT α):∀ (n:Nat) (a:Int) (b:Rows) (c d e:Int) (g:Rows),R52_1_1 α a b c d (u52_1_3 (K .ret) false ([]:Rows)) (fun h i j=>u52_1_4 (K (.exit 0)) a b c d h i j) n e g=u52_1_2 (loopT (runM Pg E52_1 sh52 c52_1_9) td52_9 K n) a b c d e g:=by
 intro n
 induction n with
 | zero=>intros;rfl
 | succ n ih=>intro a b c d e g;exact (congrArg (fun kn=>S52_1_1 α a b c d e g kn (u52_1_3 (K .ret) false ([]:Rows)) (fun h i j=>u52_1_4 (K (.exit 0)) a b c d h i j)) (funext fun e=>funext fun g=>ih a b c d e g)).trans (r52_1_1 α K (loopT (runM Pg E52_1 sh52 c52_1_9) td52_9 K n) a b c d e g).symm
theorem m52_1_1:∀ (α:Type) (K:KT α),F52_1_1 L52_1_1 α K=p52_1_2.unc fun σ=>loopT (runM Pg E52_1 sh52 c52_1_9) td52_9 K fuel σ:=fun α K=>by funext a b c d e g;exact t52_1_1 α K fuel a b c d e g
abbrev Tf52_1:Type 1:=(α:Type)->Int->Rows->Int->(Rows->Bool->Op α)->Op α
def f52_1g (b:TL52_1_1)(α:Type)(a:Int)(c:Rows)(d:Int)(k1:Rows->Bool->Op α):Op α:=
 b α a c d a
 (k1 ([]:Rows) false)
 (fun g h e=>k1 e true) 0 ([]:Rows)
def f52_1 (α:Type)(a:Int)(b:Rows)(c:Int)(k1:Rows->Bool->Op α):Op α:=f52_1g L52_1_1 α a b c k1
def pa52_1:PT (List DV):=pA [vI,pV false [(dFn 81 [(dP [dL] 0),(dP [(dI .i64)] 0)])]]
def Fn52_1 (v:Tf52_1)(α:Type)(k:RT α):Int->Rows->Int->Op α:=fun a b c=>v α a b c (fun d e=>ur52_1_0 k d e)
def cm52_1g (a:TL52_1_1):MCode:=(.seq (.region r52_2 [] (tO [0,1])) (.seq (.region r52_4 [] (tO [0,1,6])) (.seq (.seq (.region r52_7 [] (tO [0,1,6,10,11])) (.block 0 (.loop td52_9 [⟨p52_1_2,F52_1_1 a⟩] c52_1_9))) (.seq (.region r52_44 [] (some ⟨[4,5],true,[⟨false,4,0,20004,2⟩],[]⟩)) .ret))))
def cm52_1:MCode:=cm52_1g L52_1_1
theorem gm52_1:cm52_1.Good Pg E52_1 sh52:=⟨trivial,trivial,⟨trivial,g52_1_9,m52_1_1,trivial⟩,trivial,trivial⟩
theorem fm52_1g (b:Tf81_0)(c:Tf104_0)(a:TL52_1_1)(α:Type)(k:RT α):Fn52_1 (f52_1g a) α k=pa52_1.unc fun ds=>fnM Pg (E52_1g b c) sh52 (cm52_1g a) rs52 k ds:=by kernel_rfl
theorem fm52_1:∀ (α:Type) (k:RT α),Fn52_1 f52_1 α k=pa52_1.unc fun ds=>fnM Pg E52_1 sh52 cm52_1 rs52 k ds:=fm52_1g f81_0 f104_0 L52_1_1
theorem io52_1:InstOk Pg 52 nt52 ⟨pa52_1,Fn52_1 f52_1⟩:=inst_ok eo52_1 followsTry is52 ⟨⟨sh52,cm52_1,by kernel_rfl,gm52_1,fm52_1⟩⟩
def p52_2_0:PT St:=pS [sI 0,sl 1 (aV false [(cD (dFn 87 [(dP [(dI .i64)] 0),(dP [dL] 0)]))]),sl 6 (aV false [(cRef 20006)]),sI 7,sP 8,sI 10,sI 11,sI 14,sI 15] [eOwn 20006 2,eBox 8 [(cD (dX .f64)),xI,(cD dB)]]
def u52_2_0 {β:Type}(g:St->β):Int->Int->Rows->Int->Int->Int->Int->Int->Rows->Nat->Nat->Int->Bool->β:=p52_2_0.unc g
def p52_2_1:PT St:=pS [sI 0,sl 1 (aV false [(cD (dFn 87 [(dP [(dI .i64)] 0),(dP [dL] 0)]))]),sl 6 (aV false [(cRef 20006)]),sI 7,sP 8,sI 10,sI 11,sI 14,sI 15,sl 16 (aV false [(cD dB)])] [eOwn 20006 2,eBox 8 [(cD (dX .f64)),xI,(cD dB)]]
def u52_2_1 {β:Type}(g:St->β):Int->Int->Rows->Int->Int->Int->Int->Int->Bool->Rows->Nat->Nat->Int->Bool->β:=p52_2_1.unc g
def p52_2_2:PT St:=pS [sI 0,sl 1 (aV false [(cD (dFn 87 [(dP [(dI .i64)] 0),(dP [dL] 0)]))]),sl 6 (aV false [(cRef 20006)]),sI 10,sI 11] [eOwn 20006 2]
def u52_2_2 {β:Type}(g:St->β):Int->Int->Rows->Int->Int->Rows->β:=p52_2_2.unc g
def p52_2_3:PT St:=pS [sl 4 (aV false [(cRef 20004)]),sl 5 (aV false [(cD dB)])] [eOwn 20004 2]
def u52_2_3 {β:Type}(g:St->β):Bool->Rows->β:=p52_2_3.unc g
def p52_2_4:PT St:=pS [sI 0,sl 1 (aV false [(cD (dFn 87 [(dP [(dI .i64)] 0),(dP [dL] 0)]))]),sl 6 (aV false [(cRef 20006)]),sI 10,sI 11,sl 12 (aV false [(cD dB)])] [eOwn 20006 2]
def u52_2_4 {β:Type}(g:St->β):Int->Int->Rows->Int->Int->Bool->Rows->β:=p52_2_4.unc g
def pr52_2_0:PT (List RV):=pRs [pR false [rO 2],pR false [rD dB]]
def ur52_2_0 {β:Type}(g:List RV->β):Rows->Bool->β:=pr52_2_0.unc g
def E52_2g (a:Tf87_0)(b:Tf104_0):EnvK:=EnvK.ofIO [⟨87,nt87,[⟨pa87_0,Fn87_0 a⟩]⟩,⟨104,nt104,[⟨pa104_0,Fn104_0 b⟩]⟩] noSeq [(104,[0])]
def E52_2:EnvK:=E52_2g f87_0 f104_0
theorem eo52_2:E52_2.Ok Pg:=EnvK.ofIO_ok noSeq_ok ⟨⟨io87_0,trivial⟩,⟨io104_0,trivial⟩,trivial⟩
def c52_2_24g:MCode:=(.seq (.region r52_26 [] (tO [0,1,6,7,8,10,11,14,15,16])) (.seq (.cond (.tmp 16) .skip (.exit 2)) (.seq (.block 3 (.seq (.region r52_32 [] (tO [0,1,6,7,8,9,10,11,14,15])) (.region r52_33 [] (tO [0,1,6,7,8,10,11,14,15])))) (.region r52_34 [] (tO [0,1,6,7,8,10,11,14,15])))))
def c52_2_24:MCode:=c52_2_24g
theorem g52_2_24:c52_2_24.Good Pg E52_2 sh52:=⟨trivial,⟨trivial,trivial⟩,⟨trivial,trivial⟩,trivial⟩
def S52_2_0g (h:Tf104_0)(i:Tf87_0)(α:Type)(j:Int)(l:Rows)(m b a:Int)(c d:Nat)(e:Int)(g:Bool)(kn:Int->Nat->Nat->Int->Bool->Op α)(k1:Int->Bool->Nat->Nat->Int->Bool->Op α):Op α:=
 cK (decide (a < b))
 (i α m a j l
 (fun o p q r=>h α c d e g o p q r
 (fun s t w z=>kn (w64 (a+1)) s t w z)))
 (k1 a (decide (a < b)) c d e g)
def S52_2_0 (α:Type)(a:Int)(b:Rows)(c d e:Int)(g h:Nat)(i:Int)(j:Bool)(kn:Int->Nat->Nat->Int->Bool->Op α)(k1:Int->Bool->Nat->Nat->Int->Bool->Op α):Op α:=S52_2_0g f104_0 f87_0 α a b c d e g h i j kn k1
def R52_2_0 (α:Type)(a:Int)(b:Rows)(c d:Int)(k1:Int->Bool->Nat->Nat->Int->Bool->Op α):Nat->Int->Nat->Nat->Int->Bool->Op α
 | 0,_,_,_,_,_=>none
 | n+1,e,g,h,i,j=>S52_2_0 α a b c d e g h i j (R52_2_0 α a b c d k1 n) k1
def L52_2_0 (α:Type)(a:Int)(b:Rows)(c d:Int)(k1:Int->Bool->Nat->Nat->Int->Bool->Op α)(e:Int)(g h:Nat)(i:Int)(j:Bool):Op α:=R52_2_0 α a b c d k1 fuel e g h i j
abbrev TL52_2_0:Type 1:=(α:Type)->Int->Rows->Int->Int->(Int->Bool->Nat->Nat->Int->Bool->Op α)->Int->Nat->Nat->Int->Bool->Op α
def F52_2_0 (v:TL52_2_0)(α:Type)(K:KT α):Int->Int->Rows->Int->Int->Int->Int->Int->Rows->Nat->Nat->Int->Bool->Op α:=fun e a b c g h d i j l m o p=>v α a b c d (fun q r s t w z=>u52_2_1 (K (.exit 2)) e a b c g h d q r j s t w z) i l m o p
theorem r52_2_0g (q:Tf87_0)(r:Tf104_0)(α:Type)(K:KT α)(Kn:SK α)(l a:Int)(b:Rows)(c m o d e:Int)(p:Rows)(g h:Nat)(i:Int)(j:Bool):u52_2_0 (fun σ=>runM Pg (E52_2g q r) sh52 (c52_2_24g ) (thenK (fun σ=>tidyK td52_24 σ Kn) K) σ) l a b c m o d e p g h i j=S52_2_0g r q α a b c d e g h i j (fun e g h i j=>u52_2_0 Kn l a b c m o d e p g h i j) (fun s t w z A B=>u52_2_1 (K (.exit 2)) l a b c m o d s t p w z A B):=by kernel_rfl
theorem r52_2_0 (α:Type)(K:KT α)(Kn:SK α)(l a:Int)(b:Rows)(c m o d e:Int)(p:Rows)(g h:Nat)(i:Int)(j:Bool):u52_2_0 (fun σ=>runM Pg E52_2 sh52 c52_2_24 (thenK (fun σ=>tidyK td52_24 σ Kn) K) σ) l a b c m o d e p g h i j=S52_2_0 α a b c d e g h i j (fun e g h i j=>u52_2_0 Kn l a b c m o d e p g h i j) (fun q r s t w z=>u52_2_1 (K (.exit 2)) l a b c m o d q r p s t w z):=r52_2_0g f87_0 f104_0 α K Kn l a b c m o d e p g h i j
theorem t52_2_0 (α:Type)(K:KT α):∀ (n:Nat) (l a:Int) (b:Rows) (c m o d e:Int) (p:Rows) (g h:Nat) (i:Int) (j:Bool),R52_2_0 α a b c d (fun q r s t w z=>u52_2_1 (K (.exit 2)) l a b c m o d q r p s t w z) n e g h i j=u52_2_0 (loopT (runM Pg E52_2 sh52 c52_2_24) td52_24 K n) l a b c m o d e p g h i j:=by
 intro n
 induction n with
 | zero=>intros;rfl
 | succ n ih=>intro l a b c m o d e p g h i j;exact (congrArg (fun kn=>S52_2_0 α a b c d e g h i j kn (fun q r s t w z=>u52_2_1 (K (.exit 2)) l a b c m o d q r p s t w z)) (funext fun e=>funext fun g=>funext fun h=>funext fun i=>funext fun j=>ih l a b c m o d e p g h i j)).trans (r52_2_0 α K (loopT (runM Pg E52_2 sh52 c52_2_24) td52_24 K n) l a b c m o d e p g h i j).symm
theorem m52_2_0:∀ (α:Type) (K:KT α),F52_2_0 L52_2_0 α K=p52_2_0.unc fun σ=>loopT (runM Pg E52_2 sh52 c52_2_24) td52_24 K fuel σ:=fun α K=>by funext a b c d e g h i j l m o p;exact t52_2_0 α K fuel a b c d e g h i j l m o p
def c52_2_9g (a:TL52_2_0):MCode:=(.seq (.region r52_11 [] (tO [0,1,6,10,11,12])) (.seq (.cond (.tmp 12) .skip (.exit 0)) (.seq (.block 1 (.seq (.region r52_17 [] (tO [0,1,6,7,10,11])) (.seq (.region r52_19 [] (tO [0,1,6,7,8,10,11])) (.seq (.seq (.region r52_22 [] (tO [0,1,6,7,8,10,11,14,15])) (.block 2 (.loop td52_24 [⟨p52_2_0,F52_2_0 a⟩] c52_2_24))) (.seq (.seq (.region r52_37 [] (tO [0,1,6,8,10,11,27])) (.cond (.tmp 27) (.seq (.region r52_40 [] (some ⟨[4,5],true,[⟨false,4,0,20004,2⟩],[]⟩)) .ret) .skip)) (.region r52_41 [] (tO [0,1,6,10,11]))))))) (.region r52_42 [] (tO [0,1,6,10,11])))))
def c52_2_9:MCode:=c52_2_9g L52_2_0
theorem g52_2_9:c52_2_9.Good Pg E52_2 sh52:=⟨trivial,⟨trivial,trivial⟩,⟨trivial,trivial,⟨trivial,g52_2_24,m52_2_0,trivial⟩,⟨trivial,⟨trivial,trivial⟩,trivial⟩,trivial⟩,trivial⟩
def S52_2_1g (h:TL52_2_0)(α:Type)(i j:Int)(l:Rows)(c a:Int)(b:Rows)(kn:Int->Rows->Op α)(k1:Op α)(k2:Int->Bool->Rows->Op α):Op α:=
 cK (decide (a < c))
 (h α j l a i
 (fun o p d e g m=>cK m
 (k1)
 (gK (apOk 2 24 b [[DC.v (.complex .f64 d e),DC.v (.int .i64 g)]]) (kn (w64 (a+1)) (b++[[DC.v (.complex .f64 d e),DC.v (.int .i64 g)]])))) 0 0 0 0 false)
 (k2 a (decide (a < c)) b)
def S52_2_1 (α:Type)(a b:Int)(c:Rows)(d e:Int)(g:Rows)(kn:Int->Rows->Op α)(k1:Op α)(k2:Int->Bool->Rows->Op α):Op α:=S52_2_1g L52_2_0 α a b c d e g kn k1 k2
def R52_2_1 (α:Type)(a b:Int)(c:Rows)(d:Int)(k1:Op α)(k2:Int->Bool->Rows->Op α):Nat->Int->Rows->Op α
 | 0,_,_=>none
 | n+1,e,g=>S52_2_1 α a b c d e g (R52_2_1 α a b c d k1 k2 n) k1 k2
def L52_2_1 (α:Type)(a b:Int)(c:Rows)(d:Int)(k1:Op α)(k2:Int->Bool->Rows->Op α)(e:Int)(g:Rows):Op α:=R52_2_1 α a b c d k1 k2 fuel e g
abbrev TL52_2_1:Type 1:=(α:Type)->Int->Int->Rows->Int->(Op α)->(Int->Bool->Rows->Op α)->Int->Rows->Op α
def F52_2_1 (v:TL52_2_1)(α:Type)(K:KT α):Int->Int->Rows->Int->Int->Rows->Op α:=fun a b c d e g=>v α a b c d (u52_2_3 (K .ret) false ([]:Rows)) (fun h i j=>u52_2_4 (K (.exit 0)) a b c d h i j) e g
theorem r52_2_1g (i:Tf87_0)(j:Tf104_0)(h:TL52_2_0)(α:Type)(K:KT α)(Kn:SK α)(a b:Int)(c:Rows)(d e:Int)(g:Rows):u52_2_2 (fun σ=>runM Pg (E52_2g i j) sh52 (c52_2_9g h) (thenK (fun σ=>tidyK td52_9 σ Kn) K) σ) a b c d e g=S52_2_1g h α a b c d e g (fun e g=>u52_2_2 Kn a b c d e g) (u52_2_3 (K .ret) false ([]:Rows)) (fun l m o=>u52_2_4 (K (.exit 0)) a b c d l m o):=by kernel_rfl
theorem r52_2_1 (α:Type)(K:KT α)(Kn:SK α)(a b:Int)(c:Rows)(d e:Int)(g:Rows):u52_2_2 (fun σ=>runM Pg E52_2 sh52 c52_2_9 (thenK (fun σ=>tidyK td52_9 σ Kn) K) σ) a b c d e g=S52_2_1 α a b c d e g (fun e g=>u52_2_2 Kn a b c d e g) (u52_2_3 (K .ret) false ([]:Rows)) (fun h i j=>u52_2_4 (K (.exit 0)) a b c d h i j):=r52_2_1g f87_0 f104_0 L52_2_0 α K Kn a b c d e g
theorem t52_2_1 (α:Type)(K:KT α):∀ (n:Nat) (a b:Int) (c:Rows) (d e:Int) (g:Rows),R52_2_1 α a b c d (u52_2_3 (K .ret) false ([]:Rows)) (fun h i j=>u52_2_4 (K (.exit 0)) a b c d h i j) n e g=u52_2_2 (loopT (runM Pg E52_2 sh52 c52_2_9) td52_9 K n) a b c d e g:=by
 intro n
 induction n with
 | zero=>intros;rfl
 | succ n ih=>intro a b c d e g;exact (congrArg (fun kn=>S52_2_1 α a b c d e g kn (u52_2_3 (K .ret) false ([]:Rows)) (fun h i j=>u52_2_4 (K (.exit 0)) a b c d h i j)) (funext fun e=>funext fun g=>ih a b c d e g)).trans (r52_2_1 α K (loopT (runM Pg E52_2 sh52 c52_2_9) td52_9 K n) a b c d e g).symm
theorem m52_2_1:∀ (α:Type) (K:KT α),F52_2_1 L52_2_1 α K=p52_2_2.unc fun σ=>loopT (runM Pg E52_2 sh52 c52_2_9) td52_9 K fuel σ:=fun α K=>by funext a b c d e g;exact t52_2_1 α K fuel a b c d e g
abbrev Tf52_2:Type 1:=(α:Type)->Int->Int->Rows->(Rows->Bool->Op α)->Op α
def f52_2g (b:TL52_2_1)(α:Type)(a c:Int)(d:Rows)(k1:Rows->Bool->Op α):Op α:=
 b α a c d a
 (k1 ([]:Rows) false)
 (fun g h e=>k1 e true) 0 ([]:Rows)
def f52_2 (α:Type)(a b:Int)(c:Rows)(k1:Rows->Bool->Op α):Op α:=f52_2g L52_2_1 α a b c k1
def pa52_2:PT (List DV):=pA [vI,pV false [(dFn 87 [(dP [(dI .i64)] 0),(dP [dL] 0)])]]
def Fn52_2 (v:Tf52_2)(α:Type)(k:RT α):Int->Int->Rows->Op α:=fun a b c=>v α a b c (fun d e=>ur52_2_0 k d e)
def cm52_2g (a:TL52_2_1):MCode:=(.seq (.region r52_2 [] (tO [0,1])) (.seq (.region r52_4 [] (tO [0,1,6])) (.seq (.seq (.region r52_7 [] (tO [0,1,6,10,11])) (.block 0 (.loop td52_9 [⟨p52_2_2,F52_2_1 a⟩] c52_2_9))) (.seq (.region r52_44 [] (some ⟨[4,5],true,[⟨false,4,0,20004,2⟩],[]⟩)) .ret))))
def cm52_2:MCode:=cm52_2g L52_2_1
theorem gm52_2:cm52_2.Good Pg E52_2 sh52:=⟨trivial,trivial,⟨trivial,g52_2_9,m52_2_1,trivial⟩,trivial,trivial⟩
theorem fm52_2g (b:Tf87_0)(c:Tf104_0)(a:TL52_2_1)(α:Type)(k:RT α):Fn52_2 (f52_2g a) α k=pa52_2.unc fun ds=>fnM Pg (E52_2g b c) sh52 (cm52_2g a) rs52 k ds:=by kernel_rfl
theorem fm52_2:∀ (α:Type) (k:RT α),Fn52_2 f52_2 α k=pa52_2.unc fun ds=>fnM Pg E52_2 sh52 cm52_2 rs52 k ds:=fm52_2g f87_0 f104_0 L52_2_1
theorem io52_2:InstOk Pg 52 nt52 ⟨pa52_2,Fn52_2 f52_2⟩:=inst_ok eo52_2 followsTry is52 ⟨⟨sh52,cm52_2,by kernel_rfl,gm52_2,fm52_2⟩⟩
abbrev nt32:Nat:=61
def sh32:SG:=[(12,[.sl]),(14,iT),(19,[.sl]),(23,[.cpx .f64,.int .i64]),(24,[.cpx .f64,.int .i64]),(25,[.cpx .f64,.int .i64]),(32,iT),(48,[.cpx .f64,.int .i64]),(49,[.cpx .f64,.int .i64]),(50,iT),(52,[.cpx .f64,.int .i64]),(55,[.cpx .f64,.int .i64]),(56,[.cpx .f64,.int .i64])]
def r32_2:LA:=[oO 1 (.box (.tmp 0)),oO 2 (.mv (.const (.slice none 0 0))),mK 3 0]
def r32_4:LA:=[lD 12 1,oO 13 (.len (.tmp 12)),oO 4 (.alloc [(cI 0)]),sD 1 4 13]
def r32_7:LA:=[lD 14 4,oO 15 (.call 50 [.tmp 14]),oM 5 15]
def r32_9:LA:=[oM 16 5,oO 17 (.bin .neq 26 (.tmp 16) (kI 0))]
def r32_12:LA:=[oM 18 5,oO 2 (.mv (.const (.slice none 0 0))),oM 3 18]
def r32_15:LA:=[lD 19 1,oO 20 (.len (.tmp 19)),mK 21 0]
def td32_17:OT:=(some ⟨[1,4,19,20,21],true,[⟨false,19,0,20019,2⟩,⟨true,1,0,30100,2⟩],[]⟩)
def r32_19:LA:=[bT 22 .lss 21 20]
def r32_25:LA:=[oO 23 (.iaddr 2 none (.tmp 19) (.tmp 21)),lA 24 2 23,oO 7 (.alloc [(.d (.v (.complex Go.FloatKind.f64 0 0))),(cI 0)]),sD 2 7 24]
def r32_27:LA:=[lA 25 2 7,oO 26 (.call 64 [.tmp 25]),oM 8 26]
def r32_29:LA:=[oM 27 8,oO 28 (.bin .neq 26 (.tmp 27) (kI 0))]
def r32_32:LA:=[oM 29 8,oO 2 (.mv (.const (.slice none 0 0))),oM 3 29]
def r32_33:LA:=[bK 30 .add 21 1,oM 21 30]
def r32_35:LA:=[lD 32 4,oO 33 (.mkfn 81 [(.tmp 1),(.tmp 4)]),oO 34 (.call 52 [(.tmp 32),(.tmp 33)]),oM 31 34,oO 35 (.extract 0 (.tmp 31)),oO 36 (.extract 1 (.tmp 31)),oM 9 35,oM 10 36]
def r32_38:LA:=[oM 37 10,oO 38 (.pure (oB (.unOp .not 4 (.tmp 37)) 4))]
def r32_41:LA:=[oO 2 (.mv (.const (.slice none 0 0))),mK 3 8]
def r32_44:LA:=[oM 39 9,oO 40 (.len (.tmp 39)),mK 41 0]
def td32_46:OT:=(some ⟨[4,9,40,41],true,[⟨false,9,0,20009,2⟩,⟨true,1,0,30100,2⟩],[]⟩)
def r32_48:LA:=[bT 42 .lss 41 40]
def r32_54:LA:=[oM 43 41,oM 11 43]
def r32_56:LA:=[oM 44 9,oM 45 11,oM 46 9,oM 47 11,oO 48 (.iaddr 2 none (.tmp 46) (.tmp 47)),lA 49 2 48,lD 50 4,oO 51 (.call 83 [(.tmp 49),(.tmp 50)]),oO 52 (.iaddr 2 none (.tmp 44) (.tmp 45)),sD 2 52 51]
def r32_58:LA:=[oM 53 9,oM 54 11,oO 55 (.iaddr 2 none (.tmp 53) (.tmp 54)),lA 56 2 55,oO 57 (.call 64 [.tmp 56]),oO 58 (.bin .neq 26 (.tmp 57) (kI 0))]
def r32_61:LA:=[oO 2 (.mv (.const (.slice none 0 0))),mK 3 8]
def r32_62:LA:=[bK 59 .add 41 1,oM 41 59]
def r32_64:LA:=[oM 60 9,oM 2 60,mK 3 0]
def tr32:TG:=[tT 0 [1],tT 1 [1,4],tT 2 [1,4,5],tT 3 [1,4,5,17],(4,⟨[2,3],true,[⟨false,2,0,20002,2⟩],[]⟩),tT 5 [1,4,19,20,21],tT 6 [1,4,19,20,21,22],tT 7 [1,4,7,19,20,21],tT 8 [1,4,8,19,20,21],tT 9 [1,4,8,19,20,21,28],(10,⟨[2,3],true,[⟨false,2,0,20002,2⟩],[]⟩),tT 11 [1,4,19,20,21],tT 12 [4,9,10],tT 13 [4,9,38],(14,⟨[2,3],true,[⟨false,2,0,20002,2⟩],[]⟩),tT 15 [4,9,40,41],tT 16 [4,9,40,41,42],tT 17 [4,9,11,40,41],tT 18 [4,9,11,40,41],tT 19 [4,9,40,41,58],(20,⟨[2,3],true,[⟨false,2,0,20002,2⟩],[]⟩),tT 21 [4,9,40,41],(22,⟨[2,3],true,[⟨false,2,0,20002,2⟩],[]⟩)]
def tl32:TG:=[(6,⟨[1,4,19,20,21],true,[⟨false,19,0,20019,2⟩,⟨true,1,0,30100,2⟩],[]⟩),(16,⟨[4,9,40,41],true,[⟨false,9,0,20009,2⟩,⟨true,1,0,30100,2⟩],[]⟩)]
def rs32:List AResV:=[.tmp 2,.tmp 3]
def p32_0_0:PT St:=pS [sP 1,sP 4,sl 19 (aV false [(cD dL)]),sI 20,sI 21] [eBox 1 [(cD dL)],eBox 4 [xI]]
def u32_0_0 {β:Type}(g:St->β):Rows->Int->Int->Rows->Int->β:=p32_0_0.unc g
def p32_0_1:PT St:=pS [sl 2 (aV false [(cRef 20002)]),sI 3] [eOwn 20002 2]
def u32_0_1 {β:Type}(g:St->β):Int->Rows->β:=p32_0_1.unc g
def p32_0_2:PT St:=pS [sP 1,sP 4,sl 19 (aV false [(cD dL)]),sI 20,sI 21,sl 22 (aV false [(cD dB)])] [eBox 1 [(cD dL)],eBox 4 [xI]]
def u32_0_2 {β:Type}(g:St->β):Rows->Int->Int->Bool->Rows->Int->β:=p32_0_2.unc g
def p32_0_3:PT St:=pS [sP 4,sl 9 (aV false [(cRef 20009)]),sI 40,sI 41] [eBox 4 [xI],eOwn 20009 2]
def u32_0_3 {β:Type}(g:St->β):Int->Int->Int->Rows->β:=p32_0_3.unc g
def p32_0_4:PT St:=pS [sP 4,sl 9 (aV false [(cRef 20009)]),sI 40,sI 41,sl 42 (aV false [(cD dB)])] [eBox 4 [xI],eOwn 20009 2]
def u32_0_4 {β:Type}(g:St->β):Int->Int->Bool->Int->Rows->β:=p32_0_4.unc g
def pr32_0_0:PT (List RV):=pRs [pR false [rO 2],wI]
def ur32_0_0 {β:Type}(g:List RV->β):Rows->Int->β:=pr32_0_0.unc g
def E32_0g (a:Tf50_0)(b:Tf64_0)(c:Tf52_1)(d:Tf83_0):EnvK:=EnvK.of [⟨50,nt50,[⟨pa50_0,Fn50_0 a⟩]⟩,⟨64,nt64,[⟨pa64_0,Fn64_0 b⟩]⟩,⟨52,nt52,[⟨pa52_1,Fn52_1 c⟩]⟩,⟨83,nt83,[⟨pa83_0,Fn83_0 d⟩]⟩] noSeq
def E32_0:EnvK:=E32_0g f50_0 f64_0 f52_1 f83_0
theorem eo32_0:E32_0.Ok Pg:=EnvK.of_ok noSeq_ok ⟨⟨io50_0,trivial⟩,⟨io64_0,trivial⟩,⟨io52_1,trivial⟩,⟨io83_0,trivial⟩,trivial⟩
def c32_0_46g:MCode:=(.seq (.region r32_48 [] (tO [4,9,40,41,42])) (.seq (.cond (.tmp 42) .skip (.exit 2)) (.seq (.block 3 (.seq (.region r32_54 [] (tO [4,9,11,40,41])) (.seq (.region r32_56 [] (tO [4,9,11,40,41])) (.seq (.region r32_58 [] (tO [4,9,40,41,58])) (.cond (.tmp 58) (.seq (.region r32_61 [] (some ⟨[2,3],true,[⟨false,2,0,20002,2⟩],[]⟩)) .ret) .skip))))) (.region r32_62 [] (tO [4,9,40,41])))))
def c32_0_46:MCode:=c32_0_46g
theorem g32_0_46:c32_0_46.Good Pg E32_0 sh32:=⟨trivial,⟨trivial,trivial⟩,⟨trivial,trivial,trivial,⟨trivial,trivial⟩,trivial⟩,trivial⟩
def S32_0_1g (h:Tf64_0)(i:Tf83_0)(α:Type)(g j a:Int)(b:Rows)(kn:Int->Rows->Op α)(k1:Op α)(k2:Int->Bool->Rows->Op α):Op α:=
 cK (decide (a < g))
 (ixK b a 2
 (ldK b (Int.toNat a) 0 [.cpx .f64,.int .i64]
 (fun l m o=>i α l m o j
 (fun c d e=>ixK b a 2
 (stK b (Int.toNat a) 0 2
 (ixK (List.set b (Int.toNat a) (splice (rowAt b (Int.toNat a)) 0 [DC.v (.complex .f64 c d),DC.v (.int .i64 e)])) a 2
 (ldK (List.set b (Int.toNat a) (splice (rowAt b (Int.toNat a)) 0 [DC.v (.complex .f64 c d),DC.v (.int .i64 e)])) (Int.toNat a) 0 [.cpx .f64,.int .i64]
 (fun p q r=>h α p q r
 (fun s=>cK (s != 0)
 (k1)
 (kn (w64 (a+1)) (List.set b (Int.toNat a) (splice (rowAt b (Int.toNat a)) 0 [DC.v (.complex .f64 c d),DC.v (.int .i64 e)]))))))))))))
 (k2 a (decide (a < g)) b)
def S32_0_1 (α:Type)(a b c:Int)(d:Rows)(kn:Int->Rows->Op α)(k1:Op α)(k2:Int->Bool->Rows->Op α):Op α:=S32_0_1g f64_0 f83_0 α a b c d kn k1 k2
def R32_0_1 (α:Type)(a b:Int)(k1:Op α)(k2:Int->Bool->Rows->Op α):Nat->Int->Rows->Op α
 | 0,_,_=>none
 | n+1,c,d=>S32_0_1 α a b c d (R32_0_1 α a b k1 k2 n) k1 k2
def L32_0_1 (α:Type)(a b:Int)(k1:Op α)(k2:Int->Bool->Rows->Op α)(c:Int)(d:Rows):Op α:=R32_0_1 α a b k1 k2 fuel c d
abbrev TL32_0_1:Type 1:=(α:Type)->Int->Int->(Op α)->(Int->Bool->Rows->Op α)->Int->Rows->Op α
def F32_0_1 (v:TL32_0_1)(α:Type)(K:KT α):Int->Int->Int->Rows->Op α:=fun a c b d=>v α a b (u32_0_1 (K .ret) 8 ([]:Rows)) (fun e g h=>u32_0_4 (K (.exit 2)) a e g b h) c d
theorem r32_0_1g (h:Tf50_0)(e:Tf64_0)(i:Tf52_1)(g:Tf83_0)(α:Type)(K:KT α)(Kn:SK α)(a b c:Int)(d:Rows):u32_0_3 (fun σ=>runM Pg (E32_0g h e i g) sh32 (c32_0_46g ) (thenK (fun σ=>tidyK td32_46 σ Kn) K) σ) a b c d=S32_0_1g e g α a c b d (fun b d=>u32_0_3 Kn a b c d) (u32_0_1 (K .ret) 8 ([]:Rows)) (fun j l m=>u32_0_4 (K (.exit 2)) a j l c m):=by kernel_rfl
theorem r32_0_1 (α:Type)(K:KT α)(Kn:SK α)(a b c:Int)(d:Rows):u32_0_3 (fun σ=>runM Pg E32_0 sh32 c32_0_46 (thenK (fun σ=>tidyK td32_46 σ Kn) K) σ) a b c d=S32_0_1 α a c b d (fun b d=>u32_0_3 Kn a b c d) (u32_0_1 (K .ret) 8 ([]:Rows)) (fun e g h=>u32_0_4 (K (.exit 2)) a e g c h):=r32_0_1g f50_0 f64_0 f52_1 f83_0 α K Kn a b c d
theorem t32_0_1 (α:Type)(K:KT α):∀ (n:Nat) (a c b:Int) (d:Rows),R32_0_1 α a b (u32_0_1 (K .ret) 8 ([]:Rows)) (fun e g h=>u32_0_4 (K (.exit 2)) a e g b h) n c d=u32_0_3 (loopT (runM Pg E32_0 sh32 c32_0_46) td32_46 K n) a c b d:=by
 intro n
 induction n with
 | zero=>intros;rfl
 | succ n ih=>intro a c b d;exact (congrArg (fun kn=>S32_0_1 α a b c d kn (u32_0_1 (K .ret) 8 ([]:Rows)) (fun e g h=>u32_0_4 (K (.exit 2)) a e g b h)) (funext fun c=>funext fun d=>ih a c b d)).trans (r32_0_1 α K (loopT (runM Pg E32_0 sh32 c32_0_46) td32_46 K n) a c b d).symm
theorem m32_0_1:∀ (α:Type) (K:KT α),F32_0_1 L32_0_1 α K=p32_0_3.unc fun σ=>loopT (runM Pg E32_0 sh32 c32_0_46) td32_46 K fuel σ:=fun α K=>by funext a b c d;exact t32_0_1 α K fuel a b c d
def c32_0_17g:MCode:=(.seq (.region r32_19 [] (tO [1,4,19,20,21,22])) (.seq (.cond (.tmp 22) .skip (.exit 0)) (.seq (.block 1 (.seq (.region r32_25 [] (tO [1,4,7,19,20,21])) (.seq (.region r32_27 [] (tO [1,4,8,19,20,21])) (.seq (.region r32_29 [] (tO [1,4,8,19,20,21,28])) (.cond (.tmp 28) (.seq (.region r32_32 [] (some ⟨[2,3],true,[⟨false,2,0,20002,2⟩],[]⟩)) .ret) .skip))))) (.region r32_33 [] (tO [1,4,19,20,21])))))
def c32_0_17:MCode:=c32_0_17g
theorem g32_0_17:c32_0_17.Good Pg E32_0 sh32:=⟨trivial,⟨trivial,trivial⟩,⟨trivial,trivial,trivial,⟨trivial,trivial⟩,trivial⟩,trivial⟩
def S32_0_0g (d:Tf64_0)(α:Type)(e:Rows)(b a:Int)(kn:Int->Op α)(k1:Int->Op α)(k2:Int->Bool->Op α):Op α:=
 cK (decide (a < b))
 (rowK e a [.cpx .f64,.int .i64]
 (fun g h i=>d α g h i
 (fun c=>cK (c != 0)
 (k1 c)
 (kn (w64 (a+1))))))
 (k2 a (decide (a < b)))
def S32_0_0 (α:Type)(a:Rows)(b c:Int)(kn:Int->Op α)(k1:Int->Op α)(k2:Int->Bool->Op α):Op α:=S32_0_0g f64_0 α a b c kn k1 k2
def R32_0_0 (α:Type)(a:Rows)(b:Int)(k1:Int->Op α)(k2:Int->Bool->Op α):Nat->Int->Op α
 | 0,_=>none
 | n+1,c=>S32_0_0 α a b c (R32_0_0 α a b k1 k2 n) k1 k2
def L32_0_0 (α:Type)(a:Rows)(b:Int)(k1:Int->Op α)(k2:Int->Bool->Op α)(c:Int):Op α:=R32_0_0 α a b k1 k2 fuel c
abbrev TL32_0_0:Type 1:=(α:Type)->Rows->Int->(Int->Op α)->(Int->Bool->Op α)->Int->Op α
def F32_0_0 (v:TL32_0_0)(α:Type)(K:KT α):Rows->Int->Int->Rows->Int->Op α:=fun b c d e g=>v α b c (fun a=>u32_0_1 (K .ret) a ([]:Rows)) (fun a h=>u32_0_2 (K (.exit 0)) b c a h e g) d
theorem r32_0_0g (i:Tf50_0)(h:Tf64_0)(j:Tf52_1)(l:Tf83_0)(α:Type)(K:KT α)(Kn:SK α)(a:Rows)(b c:Int)(d:Rows)(e:Int):u32_0_0 (fun σ=>runM Pg (E32_0g i h j l) sh32 (c32_0_17g ) (thenK (fun σ=>tidyK td32_17 σ Kn) K) σ) a b c d e=S32_0_0g h α a b c (fun c=>u32_0_0 Kn a b c d e) (fun g=>u32_0_1 (K .ret) g ([]:Rows)) (fun g m=>u32_0_2 (K (.exit 0)) a b g m d e):=by kernel_rfl
theorem r32_0_0 (α:Type)(K:KT α)(Kn:SK α)(a:Rows)(b c:Int)(d:Rows)(e:Int):u32_0_0 (fun σ=>runM Pg E32_0 sh32 c32_0_17 (thenK (fun σ=>tidyK td32_17 σ Kn) K) σ) a b c d e=S32_0_0 α a b c (fun c=>u32_0_0 Kn a b c d e) (fun g=>u32_0_1 (K .ret) g ([]:Rows)) (fun g h=>u32_0_2 (K (.exit 0)) a b g h d e):=r32_0_0g f50_0 f64_0 f52_1 f83_0 α K Kn a b c d e
theorem t32_0_0 (α:Type)(K:KT α):∀ (n:Nat) (a:Rows) (b c:Int) (e:Rows) (g:Int),R32_0_0 α a b (fun d=>u32_0_1 (K .ret) d ([]:Rows)) (fun d h=>u32_0_2 (K (.exit 0)) a b d h e g) n c=u32_0_0 (loopT (runM Pg E32_0 sh32 c32_0_17) td32_17 K n) a b c e g:=by
 intro n
 induction n with
 | zero=>intros;rfl
 | succ n ih=>intro a b c e g;exact (congrArg (fun kn=>S32_0_0 α a b c kn (fun d=>u32_0_1 (K .ret) d ([]:Rows)) (fun d h=>u32_0_2 (K (.exit 0)) a b d h e g)) (funext fun c=>ih a b c e g)).trans (r32_0_0 α K (loopT (runM Pg E32_0 sh32 c32_0_17) td32_17 K n) a b c e g).symm
theorem m32_0_0:∀ (α:Type) (K:KT α),F32_0_0 L32_0_0 α K=p32_0_0.unc fun σ=>loopT (runM Pg E32_0 sh32 c32_0_17) td32_17 K fuel σ:=fun α K=>by funext a b c d e;exact t32_0_0 α K fuel a b c d e
abbrev Tf32_0:Type 1:=(α:Type)->Rows->(Rows->Int->Op α)->Op α
def f32_0g (d:TL32_0_0)(e:TL32_0_1)(g:Tf50_0)(h:Tf52_1)(α:Type)(a:Rows)(k1:Rows->Int->Op α):Op α:=
 g α ((List.length a:Nat):Int)
 (fun c=>cK (c != 0)
 (k1 ([]:Rows) c)
 (d α a ((List.length a:Nat):Int)
 (fun i=>k1 ([]:Rows) i)
 (fun m o=>h α ((List.length a:Nat):Int) a ((List.length a:Nat):Int)
 (fun b j=>flatK [b]
 (cK (!j)
 (k1 ([]:Rows) 8)
 (e α ((List.length b:Nat):Int) ((List.length a:Nat):Int)
 (k1 ([]:Rows) 8)
 (fun p q l=>k1 l 0) 0 b)))) 0))
def f32_0 (α:Type)(a:Rows)(k1:Rows->Int->Op α):Op α:=f32_0g L32_0_0 L32_0_1 f50_0 f52_1 α a k1
def pa32_0:PT (List DV):=pA [pV false [dL]]
def Fn32_0 (v:Tf32_0)(α:Type)(k:RT α):Rows->Op α:=fun a=>v α a (fun b c=>ur32_0_0 k b c)
def cm32_0g (a:TL32_0_0)(b:TL32_0_1):MCode:=(.seq (.region r32_2 [] (tO [1])) (.seq (.region r32_4 [] (tO [1,4])) (.seq (.seq (.region r32_7 [] (tO [1,4,5])) (.seq (.region r32_9 [] (tO [1,4,5,17])) (.cond (.tmp 17) (.seq (.region r32_12 [] (some ⟨[2,3],true,[⟨false,2,0,20002,2⟩],[]⟩)) .ret) .skip))) (.seq (.seq (.region r32_15 [] (tO [1,4,19,20,21])) (.block 0 (.loop td32_17 [⟨p32_0_0,F32_0_0 a⟩] c32_0_17))) (.seq (.region r32_35 [] (tO [4,9,10])) (.seq (.seq (.region r32_38 [] (tO [4,9,38])) (.cond (.tmp 38) (.seq (.region r32_41 [] (some ⟨[2,3],true,[⟨false,2,0,20002,2⟩],[]⟩)) .ret) .skip)) (.seq (.seq (.region r32_44 [] (tO [4,9,40,41])) (.block 2 (.loop td32_46 [⟨p32_0_3,F32_0_1 b⟩] c32_0_46))) (.seq (.region r32_64 [] (some ⟨[2,3],true,[⟨false,2,0,20002,2⟩],[]⟩)) .ret))))))))
def cm32_0:MCode:=cm32_0g L32_0_0 L32_0_1
theorem gm32_0:cm32_0.Good Pg E32_0 sh32:=⟨trivial,trivial,⟨trivial,trivial,⟨trivial,trivial⟩,trivial⟩,⟨trivial,g32_0_17,m32_0_0,trivial⟩,trivial,⟨trivial,⟨trivial,trivial⟩,trivial⟩,⟨trivial,g32_0_46,m32_0_1,trivial⟩,trivial,trivial⟩
theorem fm32_0g (a:Tf50_0)(e:Tf64_0)(b:Tf52_1)(g:Tf83_0)(c:TL32_0_0)(d:TL32_0_1)(α:Type)(k:RT α):Fn32_0 (f32_0g c d a b) α k=pa32_0.unc fun ds=>fnM Pg (E32_0g a e b g) sh32 (cm32_0g c d) rs32 k ds:=by kernel_rfl
theorem fm32_0:∀ (α:Type) (k:RT α),Fn32_0 f32_0 α k=pa32_0.unc fun ds=>fnM Pg E32_0 sh32 cm32_0 rs32 k ds:=fm32_0g f50_0 f64_0 f52_1 f83_0 L32_0_0 L32_0_1
theorem is32:FnIs Pg 32 nt32 tr32 tl32 cm32_0.erase rs32:=⟨Tryz.f32,Tryz.func32,rfl,by kernel_rfl,by kernel_rfl,by kernel_rfl⟩
theorem io32_0:InstOk Pg 32 nt32 ⟨pa32_0,Fn32_0 f32_0⟩:=inst_ok eo32_0 followsTry is32 ⟨⟨sh32,cm32_0,by kernel_rfl,gm32_0,fm32_0⟩⟩
abbrev nt11:Nat:=35
def sh11:SG:=[(9,[.sl]),(15,[.sl]),(19,iT),(20,iT),(26,[.sl])]
def r11_2:LA:=[oO 1 (.box (.tmp 0)),oO 2 (.mv (.const (.slice none 0 0))),mK 3 0]
def r11_5:LA:=[lD 9 1,oO 10 (.len (.tmp 9)),oO 11 (.call 50 [.tmp 10]),oM 4 11]
def r11_7:LA:=[oM 12 4,oO 13 (.bin .neq 26 (.tmp 12) (kI 0))]
def r11_10:LA:=[oM 14 4,oO 2 (.mv (.const (.slice none 0 0))),oM 3 14]
def r11_13:LA:=[lD 15 1,oO 16 (.len (.tmp 15)),mK 17 0]
def td11_15:OT:=(some ⟨[1,15,16,17],true,[⟨false,15,0,20015,1⟩,⟨true,1,0,30100,1⟩],[]⟩)
def r11_17:LA:=[bT 18 .lss 17 16]
def r11_23:LA:=[oO 19 (.iaddr 1 none (.tmp 15) (.tmp 17)),lD 20 19,oM 6 20]
def r11_25:LA:=[oM 21 6,oO 22 (.call 51 [(.tmp 21),(kI (-1000)),(kI 1000)]),oO 23 (.pure (oB (.unOp .not 4 (.tmp 22)) 4))]
def r11_28:LA:=[oO 2 (.mv (.const (.slice none 0 0))),mK 3 2]
def r11_29:LA:=[bK 24 .add 17 1,oM 17 24]
def r11_31:LA:=[lD 26 1,oO 27 (.len (.tmp 26)),oO 28 (.mkfn 53 [(.tmp 1)]),oO 29 (.call 52 [(.tmp 27),(.tmp 28)]),oM 25 29,oO 30 (.extract 0 (.tmp 25)),oO 31 (.extract 1 (.tmp 25)),oM 7 30,oM 8 31]
def r11_34:LA:=[oM 32 8,oO 33 (.pure (oB (.unOp .not 4 (.tmp 32)) 4))]
def r11_37:LA:=[oO 2 (.mv (.const (.slice none 0 0))),mK 3 8]
def r11_39:LA:=[oM 34 7,oM 2 34,mK 3 0]
def tr11:TG:=[tT 0 [1],tT 1 [1,4],tT 2 [1,4,13],(3,⟨[2,3],true,[⟨false,2,0,20002,2⟩],[]⟩),tT 4 [1,15,16,17],tT 5 [1,15,16,17,18],tT 6 [1,6,15,16,17],tT 7 [1,15,16,17,23],(8,⟨[2,3],true,[⟨false,2,0,20002,2⟩],[]⟩),tT 9 [1,15,16,17],tT 10 [7,8],tT 11 [7,33],(12,⟨[2,3],true,[⟨false,2,0,20002,2⟩],[]⟩),(13,⟨[2,3],true,[⟨false,2,0,20002,2⟩],[]⟩)]
def tl11:TG:=[(5,⟨[1,15,16,17],true,[⟨false,15,0,20015,1⟩,⟨true,1,0,30100,1⟩],[]⟩)]
def rs11:List AResV:=[.tmp 2,.tmp 3]
def p11_0_0:PT St:=pS [sP 1,sl 15 (aV false [(cD dL)]),sI 16,sI 17] [eBox 1 [(cD dL)]]
def u11_0_0 {β:Type}(g:St->β):Rows->Int->Int->Rows->β:=p11_0_0.unc g
def p11_0_1:PT St:=pS [sl 2 (aV false [(cRef 20002)]),sI 3] [eOwn 20002 2]
def u11_0_1 {β:Type}(g:St->β):Int->Rows->β:=p11_0_1.unc g
def p11_0_2:PT St:=pS [sP 1,sl 15 (aV false [(cD dL)]),sI 16,sI 17,sl 18 (aV false [(cD dB)])] [eBox 1 [(cD dL)]]
def u11_0_2 {β:Type}(g:St->β):Rows->Int->Int->Bool->Rows->β:=p11_0_2.unc g
def pr11_0_0:PT (List RV):=pRs [pR false [rO 2],wI]
def ur11_0_0 {β:Type}(g:List RV->β):Rows->Int->β:=pr11_0_0.unc g
def E11_0g (a:Tf50_0)(b:Tf51_0)(c:Tf52_0):EnvK:=EnvK.of [⟨50,nt50,[⟨pa50_0,Fn50_0 a⟩]⟩,⟨51,nt51,[⟨pa51_0,Fn51_0 b⟩]⟩,⟨52,nt52,[⟨pa52_0,Fn52_0 c⟩]⟩] noSeq
def E11_0:EnvK:=E11_0g f50_0 f51_0 f52_0
theorem eo11_0:E11_0.Ok Pg:=EnvK.of_ok noSeq_ok ⟨⟨io50_0,trivial⟩,⟨io51_0,trivial⟩,⟨io52_0,trivial⟩,trivial⟩
def c11_0_15g:MCode:=(.seq (.region r11_17 [] (tO [1,15,16,17,18])) (.seq (.cond (.tmp 18) .skip (.exit 0)) (.seq (.block 1 (.seq (.region r11_23 [] (tO [1,6,15,16,17])) (.seq (.region r11_25 [] (tO [1,15,16,17,23])) (.cond (.tmp 23) (.seq (.region r11_28 [] (some ⟨[2,3],true,[⟨false,2,0,20002,2⟩],[]⟩)) .ret) .skip)))) (.region r11_29 [] (tO [1,15,16,17])))))
def c11_0_15:MCode:=c11_0_15g
theorem g11_0_15:c11_0_15.Good Pg E11_0 sh11:=⟨trivial,⟨trivial,trivial⟩,⟨trivial,trivial,⟨trivial,trivial⟩,trivial⟩,trivial⟩
def S11_0_0g (c:Tf51_0)(α:Type)(d:Rows)(b a:Int)(kn:Int->Op α)(k1:Op α)(k2:Int->Bool->Op α):Op α:=
 cK (decide (a < b))
 (rowK d a [.int .i64]
 (fun e=>c α e (-1000) 1000
 (fun g=>cK (!g)
 (k1)
 (kn (w64 (a+1))))))
 (k2 a (decide (a < b)))
def S11_0_0 (α:Type)(a:Rows)(b c:Int)(kn:Int->Op α)(k1:Op α)(k2:Int->Bool->Op α):Op α:=S11_0_0g f51_0 α a b c kn k1 k2
def R11_0_0 (α:Type)(a:Rows)(b:Int)(k1:Op α)(k2:Int->Bool->Op α):Nat->Int->Op α
 | 0,_=>none
 | n+1,c=>S11_0_0 α a b c (R11_0_0 α a b k1 k2 n) k1 k2
def L11_0_0 (α:Type)(a:Rows)(b:Int)(k1:Op α)(k2:Int->Bool->Op α)(c:Int):Op α:=R11_0_0 α a b k1 k2 fuel c
abbrev TL11_0_0:Type 1:=(α:Type)->Rows->Int->(Op α)->(Int->Bool->Op α)->Int->Op α
def F11_0_0 (v:TL11_0_0)(α:Type)(K:KT α):Rows->Int->Int->Rows->Op α:=fun a b c d=>v α a b (u11_0_1 (K .ret) 2 ([]:Rows)) (fun e g=>u11_0_2 (K (.exit 0)) a b e g d) c
theorem r11_0_0g (g:Tf50_0)(e:Tf51_0)(h:Tf52_0)(α:Type)(K:KT α)(Kn:SK α)(a:Rows)(b c:Int)(d:Rows):u11_0_0 (fun σ=>runM Pg (E11_0g g e h) sh11 (c11_0_15g ) (thenK (fun σ=>tidyK td11_15 σ Kn) K) σ) a b c d=S11_0_0g e α a b c (fun c=>u11_0_0 Kn a b c d) (u11_0_1 (K .ret) 2 ([]:Rows)) (fun i j=>u11_0_2 (K (.exit 0)) a b i j d):=by kernel_rfl
theorem r11_0_0 (α:Type)(K:KT α)(Kn:SK α)(a:Rows)(b c:Int)(d:Rows):u11_0_0 (fun σ=>runM Pg E11_0 sh11 c11_0_15 (thenK (fun σ=>tidyK td11_15 σ Kn) K) σ) a b c d=S11_0_0 α a b c (fun c=>u11_0_0 Kn a b c d) (u11_0_1 (K .ret) 2 ([]:Rows)) (fun e g=>u11_0_2 (K (.exit 0)) a b e g d):=r11_0_0g f50_0 f51_0 f52_0 α K Kn a b c d
theorem t11_0_0 (α:Type)(K:KT α):∀ (n:Nat) (a:Rows) (b c:Int) (d:Rows),R11_0_0 α a b (u11_0_1 (K .ret) 2 ([]:Rows)) (fun e g=>u11_0_2 (K (.exit 0)) a b e g d) n c=u11_0_0 (loopT (runM Pg E11_0 sh11 c11_0_15) td11_15 K n) a b c d:=by
 intro n
 induction n with
 | zero=>intros;rfl
 | succ n ih=>intro a b c d;exact (congrArg (fun kn=>S11_0_0 α a b c kn (u11_0_1 (K .ret) 2 ([]:Rows)) (fun e g=>u11_0_2 (K (.exit 0)) a b e g d)) (funext fun c=>ih a b c d)).trans (r11_0_0 α K (loopT (runM Pg E11_0 sh11 c11_0_15) td11_15 K n) a b c d).symm
theorem m11_0_0:∀ (α:Type) (K:KT α),F11_0_0 L11_0_0 α K=p11_0_0.unc fun σ=>loopT (runM Pg E11_0 sh11 c11_0_15) td11_15 K fuel σ:=fun α K=>by funext a b c d;exact t11_0_0 α K fuel a b c d
abbrev Tf11_0:Type 1:=(α:Type)->Rows->(Rows->Int->Op α)->Op α
def f11_0g (d:TL11_0_0)(e:Tf50_0)(g:Tf52_0)(α:Type)(a:Rows)(k1:Rows->Int->Op α):Op α:=
 e α ((List.length a:Nat):Int)
 (fun b=>cK (b != 0)
 (k1 ([]:Rows) b)
 (d α a ((List.length a:Nat):Int)
 (k1 ([]:Rows) 2)
 (fun i j=>g α ((List.length a:Nat):Int) a
 (fun c h=>flatK [c]
 (cK (!h)
 (k1 ([]:Rows) 8)
 (k1 c 0)))) 0))
def f11_0 (α:Type)(a:Rows)(k1:Rows->Int->Op α):Op α:=f11_0g L11_0_0 f50_0 f52_0 α a k1
def pa11_0:PT (List DV):=pA [pV false [dL]]
def Fn11_0 (v:Tf11_0)(α:Type)(k:RT α):Rows->Op α:=fun a=>v α a (fun b c=>ur11_0_0 k b c)
def cm11_0g (a:TL11_0_0):MCode:=(.seq (.region r11_2 [] (tO [1])) (.seq (.seq (.region r11_5 [] (tO [1,4])) (.seq (.region r11_7 [] (tO [1,4,13])) (.cond (.tmp 13) (.seq (.region r11_10 [] (some ⟨[2,3],true,[⟨false,2,0,20002,2⟩],[]⟩)) .ret) .skip))) (.seq (.seq (.region r11_13 [] (tO [1,15,16,17])) (.block 0 (.loop td11_15 [⟨p11_0_0,F11_0_0 a⟩] c11_0_15))) (.seq (.region r11_31 [] (tO [7,8])) (.seq (.seq (.region r11_34 [] (tO [7,33])) (.cond (.tmp 33) (.seq (.region r11_37 [] (some ⟨[2,3],true,[⟨false,2,0,20002,2⟩],[]⟩)) .ret) .skip)) (.seq (.region r11_39 [] (some ⟨[2,3],true,[⟨false,2,0,20002,2⟩],[]⟩)) .ret))))))
def cm11_0:MCode:=cm11_0g L11_0_0
theorem gm11_0:cm11_0.Good Pg E11_0 sh11:=⟨trivial,⟨trivial,trivial,⟨trivial,trivial⟩,trivial⟩,⟨trivial,g11_0_15,m11_0_0,trivial⟩,trivial,⟨trivial,⟨trivial,trivial⟩,trivial⟩,trivial,trivial⟩
theorem fm11_0g (a:Tf50_0)(d:Tf51_0)(b:Tf52_0)(c:TL11_0_0)(α:Type)(k:RT α):Fn11_0 (f11_0g c a b) α k=pa11_0.unc fun ds=>fnM Pg (E11_0g a d b) sh11 (cm11_0g c) rs11 k ds:=by kernel_rfl
theorem fm11_0:∀ (α:Type) (k:RT α),Fn11_0 f11_0 α k=pa11_0.unc fun ds=>fnM Pg E11_0 sh11 cm11_0 rs11 k ds:=fm11_0g f50_0 f51_0 f52_0 L11_0_0
theorem is11:FnIs Pg 11 nt11 tr11 tl11 cm11_0.erase rs11:=⟨Tryz.f11,Tryz.func11,rfl,by kernel_rfl,by kernel_rfl,by kernel_rfl⟩
theorem io11_0:InstOk Pg 11 nt11 ⟨pa11_0,Fn11_0 f11_0⟩:=inst_ok eo11_0 followsTry is11 ⟨⟨sh11,cm11_0,by kernel_rfl,gm11_0,fm11_0⟩⟩
abbrev nt36:Nat:=59
def sh36:SG:=[(21,[.sl]),(23,[.sl]),(28,[.sl]),(29,iT),(32,[.cpx .f64,.int .i64]),(33,[.cpx .f64,.int .i64]),(34,[.cpx .f64,.int .i64]),(40,[.sl]),(41,iT),(44,[.sl]),(46,[.cpx .f64,.int .i64]),(48,[.cpx .f64,.int .i64]),(49,[.cpx .f64,.int .i64]),(51,iT),(26,[.cpx .f64,.int .i64])]
def r36_2:LA:=[oO 2 (.alloc [.nils]),oO 3 (.alloc [(cI 0)])]
def r36_4:LA:=[oM 14 0,oO 15 (.call 32 [.tmp 14]),oM 13 15,oO 16 (.extract 0 (.tmp 13)),oO 17 (.extract 1 (.tmp 13)),oO 4 (.alloc [.nils]),sD 1 4 16,oM 5 17]
def r36_7:LA:=[oM 18 5,oO 19 (.bin .neq 26 (.tmp 18) (kI 0))]
def r36_10:LA:=[oM 20 5,oD (.store 1 (.tmp 2) (.const (.slice none 0 0))),sD 1 3 20]
def r36_12:LA:=[lD 21 4,oO 22 (.len (.tmp 21)),oO 6 (.alloc [(cI 0)]),sD 1 6 22]
def r36_15:LA:=[lD 23 4,oO 24 (.call 84 [.tmp 23])]
def td36_17:OT:=(some ⟨[2,3,4,6,23,24],true,[⟨false,23,0,20023,2⟩,⟨true,2,0,30200,2⟩,⟨true,4,0,30400,2⟩],[]⟩)
def r36_19:LA:=[oM 7 25]
def r36_20:LA:=[oO 8 (.alloc [(.d (.v (.complex Go.FloatKind.f64 0 0))),(cI 0)]),sD 2 8 26]
def r36_23:LA:=[lD 28 4,lD 29 6,oM 30 7,bT 31 .sub 29 30,oO 32 (.iaddr 2 none (.tmp 28) (.tmp 31)),lA 33 2 32,lA 34 2 8,oO 35 (.call 86 [(.tmp 33),(.tmp 34)]),oM 27 35,oO 36 (.extract 0 (.tmp 27)),oO 37 (.extract 1 (.tmp 27)),oO 9 (.alloc [(.d (.v (.complex Go.FloatKind.f64 0 0))),(cI 0)]),sD 2 9 36,oM 10 37]
def r36_26:LA:=[oM 38 10,oO 39 (.bin .neq 26 (.tmp 38) (kI 0))]
def r36_29:LA:=[oD (.store 1 (.tmp 2) (.const (.slice none 0 0))),oD (.store 1 (.tmp 3) (kI 8))]
def r36_30:LA:=[lD 40 4,lD 41 6,oM 42 7,bT 43 .sub 41 42,lD 44 4,oM 45 7,lA 46 2 9,oO 47 (.build [(.d (.v (.complex Go.FloatKind.f64 0 0))),(cI 0)] []),oO 48 (.iaddr 2 none (.tmp 40) (.tmp 43)),sD 2 48 46,oO 49 (.iaddr 2 none (.tmp 44) (.tmp 45)),sD 2 49 47]
def r36_32:LA:=[lD 51 6,oO 52 (.mkfn 87 [(.tmp 6),(.tmp 4)]),oO 53 (.call 52 [(.tmp 51),(.tmp 52)]),oM 50 53,oO 54 (.extract 0 (.tmp 50)),oO 55 (.extract 1 (.tmp 50)),oM 11 54,oM 12 55]
def r36_35:LA:=[oM 56 12,oO 57 (.pure (oB (.unOp .not 4 (.tmp 56)) 4))]
def r36_38:LA:=[oD (.store 1 (.tmp 2) (.const (.slice none 0 0))),oD (.store 1 (.tmp 3) (kI 8))]
def r36_40:LA:=[oM 58 11,sD 1 2 58,oD (.store 1 (.tmp 3) (kI 0))]
def tr36:TG:=[(0,⟨[0,2,3],true,[⟨true,2,0,30200,2⟩],[]⟩),(1,⟨[2,3,4,5],true,[⟨true,2,0,30200,2⟩],[]⟩),(2,⟨[2,3,4,5,19],true,[⟨true,2,0,30200,2⟩],[]⟩),(3,⟨[2,3],true,[⟨true,2,0,30200,2⟩],[]⟩),(4,⟨[2,3,4,6],true,[⟨true,2,0,30200,2⟩],[]⟩),(5,⟨[2,3,4,6,23,24],true,[⟨false,23,0,20023,2⟩,⟨true,2,0,30200,2⟩,⟨true,4,0,30400,2⟩],[]⟩),(6,⟨[2,3,4,6,7,26],true,[⟨true,2,0,30200,2⟩],[]⟩),(7,⟨[2,3,4,6,7,8],true,[⟨true,2,0,30200,2⟩],[]⟩),(8,⟨[2,3,4,6,7,9,10],true,[⟨true,2,0,30200,2⟩],[]⟩),(9,⟨[2,3,4,6,7,9,39],true,[⟨true,2,0,30200,2⟩],[]⟩),(10,⟨[2,3],true,[⟨true,2,0,30200,2⟩],[]⟩),(11,⟨[2,3,4,6],true,[⟨true,2,0,30200,2⟩],[]⟩),(12,⟨[2,3,11,12],true,[⟨true,2,0,30200,2⟩],[]⟩),(13,⟨[2,3,11,57],true,[⟨true,2,0,30200,2⟩],[]⟩),(14,⟨[2,3],true,[⟨true,2,0,30200,2⟩],[]⟩),(15,⟨[2,3],true,[⟨true,2,0,30200,2⟩],[]⟩)]
def tl36:TG:=[(8,⟨[2,3,4,6,23,24],true,[⟨false,23,0,20023,2⟩,⟨true,2,0,30200,2⟩,⟨true,4,0,30400,2⟩],[]⟩)]
def rs36:List AResV:=[.cell 2 false 1,.cell 3 false 1]
def p36_0_0:PT St:=pS [sP 2,sP 3,sP 4,sP 6,sl 23 (aV false [(cRef 30400)]),sl 24 (aV false [(cFn 121 [(pCp 24)])])] [eBox 2 [(cRef 30200)],eOwn 30200 2,eBox 3 [xI],eBox 4 [(cRef 30400)],eOwn 30400 2,eBox 6 [xI],eDead 24]
def u36_0_0 {β:Type}(g:St->β):Rows->Int->Rows->Int->β:=p36_0_0.unc g
def pr36_0_0:PT (List RV):=pRs [pR false [rO 2],wI]
def ur36_0_0 {β:Type}(g:List RV->β):Rows->Int->β:=pr36_0_0.unc g
def E36_0g (a:Tf32_0)(b:Tf86_0)(c:Tf52_2):EnvK:=EnvK.ofP (EnvK.of [⟨32,nt32,[⟨pa32_0,Fn32_0 a⟩]⟩,⟨86,nt86,[⟨pa86_0,Fn86_0 b⟩]⟩,⟨52,nt52,[⟨pa52_2,Fn52_2 c⟩]⟩] noSeq) [(84,[1000121,0]),(121,[2000000,2])]
def E36_0:EnvK:=E36_0g f32_0 f86_0 f52_2
theorem eo36_0:E36_0.Ok Pg:=EnvK.ofP_ok (EnvK.of_ok noSeq_ok ⟨⟨io32_0,trivial⟩,⟨io86_0,trivial⟩,⟨io52_2,trivial⟩,trivial⟩) ⟨ptr84,ptr121,trivial⟩
def ca36_0_17:MCode:=(.seq (.region r36_19 [] (some ⟨[2,3,4,6,7,26],true,[⟨true,2,0,30200,2⟩],[]⟩)) (.region r36_20 [] (some ⟨[2,3,4,6,7,8],true,[⟨true,2,0,30200,2⟩],[]⟩)))
theorem ga36_0_17:ca36_0_17.Good Pg E36_0 sh36:=⟨trivial,trivial⟩
def c36_0_17g:MCode:=(.block 1 (.seq (.region r36_23 [(0,11),(1,11),(4,11),(5,11),(6,11),(7,11)] (some ⟨[2,3,4,6,7,9,10],true,[⟨true,2,0,30200,2⟩],[]⟩)) (.seq (.seq (.region r36_26 [] (some ⟨[2,3,4,6,7,9,39],true,[⟨true,2,0,30200,2⟩],[]⟩)) (.cond (.tmp 39) (.seq (.region r36_29 [] (some ⟨[2,3],true,[⟨true,2,0,30200,2⟩],[]⟩)) .ret) .skip)) (.region r36_30 [(4,9)] (some ⟨[2,3,4,6],true,[⟨true,2,0,30200,2⟩],[]⟩)))))
def c36_0_17:MCode:=c36_0_17g
theorem g36_0_17:c36_0_17.Good Pg E36_0 sh36:=⟨trivial,⟨trivial,⟨trivial,trivial⟩,trivial⟩,trivial⟩
def S36_0_0g (h:Tf86_0)(α:Type)(c:Int)(a:Int)(b:Rows)(kn:Rows->Op α)(k1:Rows->Op α)(k2:Rows->Op α):Op α:=
 ldK b (Int.toNat a) 0 [.cpx .f64,.int .i64]
 (fun i j l=>ixK b (w64 (c - a)) 2
 (ldK b (Int.toNat (w64 (c - a))) 0 [.cpx .f64,.int .i64]
 (fun m o p=>h α m o p i j l
 (fun d e g q=>cK (q != 0)
 (k2 b)
 (ixK b (w64 (c - a)) 2
 (stK b (Int.toNat (w64 (c - a))) 0 2
 (ixK (List.set b (Int.toNat (w64 (c - a))) (splice (rowAt b (Int.toNat (w64 (c - a)))) 0 [DC.v (.complex .f64 d e),DC.v (.int .i64 g)])) a 2
 (stK (List.set b (Int.toNat (w64 (c - a))) (splice (rowAt b (Int.toNat (w64 (c - a)))) 0 [DC.v (.complex .f64 d e),DC.v (.int .i64 g)])) (Int.toNat a) 0 2
 (kn (List.set (List.set b (Int.toNat (w64 (c - a))) (splice (rowAt b (Int.toNat (w64 (c - a)))) 0 [DC.v (.complex .f64 d e),DC.v (.int .i64 g)])) (Int.toNat a) (splice (rowAt (List.set b (Int.toNat (w64 (c - a))) (splice (rowAt b (Int.toNat (w64 (c - a)))) 0 [DC.v (.complex .f64 d e),DC.v (.int .i64 g)])) (Int.toNat a)) 0 [DC.v (.complex .f64 0 0),DC.v (.int .i64 0)])))))))))))
def S36_0_0 (α:Type)(a:Int)(b:Int)(c:Rows)(kn:Rows->Op α)(k1:Rows->Op α)(k2:Rows->Op α):Op α:=S36_0_0g f86_0 α a b c kn k1 k2
def V36_0_0 (α:Type)(b:Int)(k1:Rows->Op α)(k2:Rows->Op α):List Int->Rows->Op α
 | [],a=>k1 a
 | c::ys,a=>S36_0_0 α b c a (V36_0_0 α b k1 k2 ys) k1 k2
abbrev TV36_0_0:Type 1:=(α:Type)->Int->(Rows->Op α)->(Rows->Op α)->List Int->Rows->Op α
def F36_0_0 (v:TV36_0_0)(α:Type)(K:KT α)(ys:List Int):Rows->Int->Rows->Int->Op α:=fun c d e a=>v α a (fun b=>u36_0_0 (K .normal) c d b a) (fun b=>u36_0_0 (K .ret) ([]:Rows) 8 b a) ys e
theorem r36_0_0g (h:Tf32_0)(c:Tf86_0)(i:Tf52_2)(α:Type)(K:KT α)(Kn:SK α)(j:Int)(d:Rows)(e:Int)(b:Rows)(a:Int):u36_0_0 (fun σ=>roundT sh36 true (.tmp 24) (runM Pg (E36_0g h c i) sh36 ca36_0_17) (runM Pg (E36_0g h c i) sh36 c36_0_17) [25,26] td36_17 Kn K (xN.ex j) σ) d e b a=S36_0_0g c α a j b (fun b=>u36_0_0 Kn d e b a) (fun g=>u36_0_0 (K .normal) d e g a) (fun g=>u36_0_0 (K .ret) ([]:Rows) 8 g a):=by kernel_rfl
theorem r36_0_0 (α:Type)(K:KT α)(Kn:SK α)(e:Int)(c:Rows)(d:Int)(b:Rows)(a:Int):u36_0_0 (fun σ=>roundT sh36 true (.tmp 24) (runM Pg E36_0 sh36 ca36_0_17) (runM Pg E36_0 sh36 c36_0_17) [25,26] td36_17 Kn K (xN.ex e) σ) c d b a=S36_0_0 α a e b (fun b=>u36_0_0 Kn c d b a) (fun g=>u36_0_0 (K .normal) c d g a) (fun g=>u36_0_0 (K .ret) ([]:Rows) 8 g a):=r36_0_0g f32_0 f86_0 f52_2 α K Kn e c d b a
theorem t36_0_0 (α:Type)(K:KT α):∀ (ys:List Int) (d:Rows) (e:Int) (b:Rows) (a:Int),V36_0_0 α a (fun c=>u36_0_0 (K .normal) d e c a) (fun c=>u36_0_0 (K .ret) ([]:Rows) 8 c a) ys b=u36_0_0 (roundsK sh36 true (.tmp 24) (runM Pg E36_0 sh36 ca36_0_17) (runM Pg E36_0 sh36 c36_0_17) [25,26] td36_17 K (ys.map xN.ex)) d e b a:=by
 intro ys
 induction ys with
 | nil=>intros;rfl
 | cons g ys ih=>intro d e b a;exact (congrArg (fun kn=>S36_0_0 α a g b kn (fun c=>u36_0_0 (K .normal) d e c a) (fun c=>u36_0_0 (K .ret) ([]:Rows) 8 c a)) (funext fun b=>ih d e b a)).trans (r36_0_0 α K (roundsK sh36 true (.tmp 24) (runM Pg E36_0 sh36 ca36_0_17) (runM Pg E36_0 sh36 c36_0_17) [25,26] td36_17 K (ys.map xN.ex)) g d e b a).symm
theorem m36_0_0:∀ (α:Type) (K:KT α) (ys:List Int),F36_0_0 V36_0_0 α K ys=p36_0_0.unc fun σ=>roundsK sh36 true (.tmp 24) (runM Pg E36_0 sh36 ca36_0_17) (runM Pg E36_0 sh36 c36_0_17) [25,26] td36_17 K (ys.map xN.ex) σ:=fun α K ys=>by funext a b c d;exact t36_0_0 α K ys a b c d
abbrev Tf36_0:Type 1:=(α:Type)->Rows->(Rows->Int->Op α)->Op α
def f36_0g (vV36_0_0:TV36_0_0)(d:Tf32_0)(e:Tf52_2)(α:Type)(g:Rows)(k1:Rows->Int->Op α):Op α:=
 d α g
 (fun a b=>cK (b != 0)
 (k1 ([]:Rows) b)
 (qK (some (idxL (List.length a))) xN fun h=>vV36_0_0 α ((List.length a:Nat):Int)
 (fun i=>e α ((List.length a:Nat):Int) ((List.length a:Nat):Int) i
 (fun c j=>flatK [c]
 (cK (!j)
 (k1 ([]:Rows) 8)
 (k1 c 0))))
 (fun l=>k1 ([]:Rows) 8) h a))
def f36_0 (α:Type)(a:Rows)(k1:Rows->Int->Op α):Op α:=f36_0g V36_0_0 f32_0 f52_2 α a k1
def pa36_0:PT (List DV):=pA [pV false [dL]]
def Fn36_0 (v:Tf36_0)(α:Type)(k:RT α):Rows->Op α:=fun a=>v α a (fun b c=>ur36_0_0 k b c)
def cm36_0g (vV36_0_0:TV36_0_0):MCode:=(.seq (.region r36_2 [] (some ⟨[0,2,3],true,[⟨true,2,0,30200,2⟩],[]⟩)) (.seq (.region r36_4 [] (some ⟨[2,3,4,5],true,[⟨true,2,0,30200,2⟩],[]⟩)) (.seq (.seq (.region r36_7 [] (some ⟨[2,3,4,5,19],true,[⟨true,2,0,30200,2⟩],[]⟩)) (.cond (.tmp 19) (.seq (.region r36_10 [] (some ⟨[2,3],true,[⟨true,2,0,30200,2⟩],[]⟩)) .ret) .skip)) (.seq (.region r36_12 [] (some ⟨[2,3,4,6],true,[⟨true,2,0,30200,2⟩],[]⟩)) (.seq (.seq (.region r36_15 [] (some ⟨[2,3,4,6,23,24],true,[⟨false,23,0,20023,2⟩,⟨true,2,0,30200,2⟩,⟨true,4,0,30400,2⟩],[]⟩)) (.block 0 (.rangeF (.tmp 24) [25,26] td36_17 [⟨true,xN,p36_0_0,F36_0_0 vV36_0_0⟩] ca36_0_17 c36_0_17))) (.seq (.region r36_32 [] (some ⟨[2,3,11,12],true,[⟨true,2,0,30200,2⟩],[]⟩)) (.seq (.seq (.region r36_35 [] (some ⟨[2,3,11,57],true,[⟨true,2,0,30200,2⟩],[]⟩)) (.cond (.tmp 57) (.seq (.region r36_38 [] (some ⟨[2,3],true,[⟨true,2,0,30200,2⟩],[]⟩)) .ret) .skip)) (.seq (.region r36_40 [] (some ⟨[2,3],true,[⟨true,2,0,30200,2⟩],[]⟩)) .ret))))))))
def cm36_0:MCode:=cm36_0g V36_0_0
theorem gm36_0:cm36_0.Good Pg E36_0 sh36:=⟨trivial,trivial,⟨trivial,⟨trivial,trivial⟩,trivial⟩,trivial,⟨trivial,⟨ga36_0_17,g36_0_17⟩,m36_0_0,trivial⟩,trivial,⟨trivial,⟨trivial,trivial⟩,trivial⟩,trivial,trivial⟩
theorem fm36_0g (a:Tf32_0)(c:Tf86_0)(b:Tf52_2)(vV36_0_0:TV36_0_0)(α:Type)(k:RT α):Fn36_0 (f36_0g vV36_0_0 a b) α k=pa36_0.unc fun ds=>fnM Pg (E36_0g a c b) sh36 (cm36_0g vV36_0_0) rs36 k ds:=by kernel_rfl
theorem fm36_0:∀ (α:Type) (k:RT α),Fn36_0 f36_0 α k=pa36_0.unc fun ds=>fnM Pg E36_0 sh36 cm36_0 rs36 k ds:=fm36_0g f32_0 f86_0 f52_2 V36_0_0
theorem is36:FnIs Pg 36 nt36 tr36 tl36 cm36_0.erase rs36:=⟨Tryz.f36,Tryz.func36,rfl,by kernel_rfl,by kernel_rfl,by kernel_rfl⟩
theorem io36_0:InstOk Pg 36 nt36 ⟨pa36_0,Fn36_0 f36_0⟩:=inst_ok eo36_0 followsTry is36 ⟨⟨sh36,cm36_0,by kernel_rfl,gm36_0,fm36_0⟩⟩
abbrev nt35:Nat:=24
def sh35:SG:=[(20,[.cpx .f64,.int .i64]),(19,[.cpx .f64,.int .i64])]
def r35_2:LA:=[oO 2 (.alloc [(cI 0)]),oO 3 (.alloc [(cI 0)])]
def r35_4:LA:=[oM 9 0,oO 10 (.call 32 [.tmp 9]),oM 8 10,oO 11 (.extract 0 (.tmp 8)),oO 12 (.extract 1 (.tmp 8)),oM 4 11,oM 5 12]
def r35_7:LA:=[oM 13 5,oO 14 (.bin .neq 26 (.tmp 13) (kI 0))]
def r35_10:LA:=[oM 15 5,oD (.store 1 (.tmp 2) (kI 0)),sD 1 3 15]
def r35_13:LA:=[oM 16 4,oO 17 (.call 84 [.tmp 16])]
def td35_15:OT:=(some ⟨[2,3,16,17],true,[⟨false,16,0,20016,2⟩],[]⟩)
def r35_17:LA:=[oM 6 18]
def r35_18:LA:=[oO 7 (.alloc [(.d (.v (.complex Go.FloatKind.f64 0 0))),(cI 0)]),sD 2 7 19]
def r35_21:LA:=[lA 20 2 7,oO 21 (.call 85 [.tmp 20]),oO 22 (.pure (oB (.unOp .not 4 (.tmp 21)) 4))]
def r35_24:LA:=[oM 23 6,sD 1 2 23,oD (.store 1 (.tmp 3) (kI 0))]
def r35_26:LA:=[oD (.store 1 (.tmp 2) (kI 0)),oD (.store 1 (.tmp 3) (kI 17))]
def tr35:TG:=[tT 0 [0,2,3],tT 1 [2,3,4,5],tT 2 [2,3,4,5,14],tT 3 [2,3],(4,⟨[2,3,16,17],true,[⟨false,16,0,20016,2⟩],[]⟩),tT 5 [2,3,6,19],tT 6 [2,3,6,7],tT 7 [2,3,6,22],tT 8 [2,3],tT 9 [2,3]]
def tl35:TG:=[(7,⟨[2,3,16,17],true,[⟨false,16,0,20016,2⟩],[]⟩)]
def rs35:List AResV:=[.cell 2 false 1,.cell 3 false 1]
def p35_0_0:PT St:=pS [sP 2,sP 3,sl 16 (aV false [(cRef 20016)]),sl 17 (aV false [(cFn 121 [(pCp 17)])])] [eBox 2 [xI],eBox 3 [xI],eOwn 20016 2,eDead 17]
def u35_0_0 {β:Type}(g:St->β):Int->Int->Rows->β:=p35_0_0.unc g
def pr35_0_0:PT (List RV):=pRs [wI,wI]
def ur35_0_0 {β:Type}(g:List RV->β):Int->Int->β:=pr35_0_0.unc g
def E35_0g (a:Tf32_0)(b:Tf85_0):EnvK:=EnvK.ofP (EnvK.of [⟨32,nt32,[⟨pa32_0,Fn32_0 a⟩]⟩,⟨85,nt85,[⟨pa85_0,Fn85_0 b⟩]⟩] noSeq) [(84,[1000121,0]),(121,[2000000,2])]
def E35_0:EnvK:=E35_0g f32_0 f85_0
theorem eo35_0:E35_0.Ok Pg:=EnvK.ofP_ok (EnvK.of_ok noSeq_ok ⟨⟨io32_0,trivial⟩,⟨io85_0,trivial⟩,trivial⟩) ⟨ptr84,ptr121,trivial⟩
def ca35_0_15:MCode:=(.seq (.region r35_17 [] (tO [2,3,6,19])) (.region r35_18 [] (tO [2,3,6,7])))
theorem ga35_0_15:ca35_0_15.Good Pg E35_0 sh35:=⟨trivial,trivial⟩
def c35_0_15g:MCode:=(.block 1 (.seq (.region r35_21 [] (tO [2,3,6,22])) (.cond (.tmp 22) (.seq (.region r35_24 [] (tO [2,3])) .ret) .skip)))
def c35_0_15:MCode:=c35_0_15g
theorem g35_0_15:c35_0_15.Good Pg E35_0 sh35:=⟨trivial,⟨trivial,trivial⟩,trivial⟩
def S35_0_0g (b:Tf85_0)(α:Type)(c:Rows)(a:Int)(kn:Op α)(k1:Op α)(k2:Int->Op α):Op α:=
 ldK c (Int.toNat a) 0 [.cpx .f64,.int .i64]
 (fun d e g=>b α d e g
 (fun h=>cK (!h)
 (k2 a)
 (kn)))
def S35_0_0 (α:Type)(a:Rows)(b:Int)(kn:Op α)(k1:Op α)(k2:Int->Op α):Op α:=S35_0_0g f85_0 α a b kn k1 k2
def V35_0_0 (α:Type)(a:Rows)(k1:Op α)(k2:Int->Op α):List Int->Op α
 | []=>k1
 | b::ys=>S35_0_0 α a b (V35_0_0 α a k1 k2 ys) k1 k2
abbrev TV35_0_0:Type 1:=(α:Type)->Rows->(Op α)->(Int->Op α)->List Int->Op α
def F35_0_0 (v:TV35_0_0)(α:Type)(K:KT α)(ys:List Int):Int->Int->Rows->Op α:=fun b c a=>v α a (u35_0_0 (K .normal) b c a) (fun d=>u35_0_0 (K .ret) d 0 a) ys
theorem r35_0_0g (e:Tf32_0)(b:Tf85_0)(α:Type)(K:KT α)(Kn:SK α)(g:Int)(c d:Int)(a:Rows):u35_0_0 (fun σ=>roundT sh35 true (.tmp 17) (runM Pg (E35_0g e b) sh35 ca35_0_15) (runM Pg (E35_0g e b) sh35 c35_0_15) [18,19] td35_15 Kn K (xN.ex g) σ) c d a=S35_0_0g b α a g (u35_0_0 Kn c d a) (u35_0_0 (K .normal) c d a) (fun h=>u35_0_0 (K .ret) h 0 a):=by kernel_rfl
theorem r35_0_0 (α:Type)(K:KT α)(Kn:SK α)(d:Int)(b c:Int)(a:Rows):u35_0_0 (fun σ=>roundT sh35 true (.tmp 17) (runM Pg E35_0 sh35 ca35_0_15) (runM Pg E35_0 sh35 c35_0_15) [18,19] td35_15 Kn K (xN.ex d) σ) b c a=S35_0_0 α a d (u35_0_0 Kn b c a) (u35_0_0 (K .normal) b c a) (fun e=>u35_0_0 (K .ret) e 0 a):=r35_0_0g f32_0 f85_0 α K Kn d b c a
theorem t35_0_0 (α:Type)(K:KT α):∀ (ys:List Int) (b c:Int) (a:Rows),V35_0_0 α a (u35_0_0 (K .normal) b c a) (fun d=>u35_0_0 (K .ret) d 0 a) ys=u35_0_0 (roundsK sh35 true (.tmp 17) (runM Pg E35_0 sh35 ca35_0_15) (runM Pg E35_0 sh35 c35_0_15) [18,19] td35_15 K (ys.map xN.ex)) b c a:=by
 intro ys
 induction ys with
 | nil=>intros;rfl
 | cons e ys ih=>intro b c a;exact (congrArg (fun kn=>S35_0_0 α a e kn (u35_0_0 (K .normal) b c a) (fun d=>u35_0_0 (K .ret) d 0 a)) (ih b c a)).trans (r35_0_0 α K (roundsK sh35 true (.tmp 17) (runM Pg E35_0 sh35 ca35_0_15) (runM Pg E35_0 sh35 c35_0_15) [18,19] td35_15 K (ys.map xN.ex)) e b c a).symm
theorem m35_0_0:∀ (α:Type) (K:KT α) (ys:List Int),F35_0_0 V35_0_0 α K ys=p35_0_0.unc fun σ=>roundsK sh35 true (.tmp 17) (runM Pg E35_0 sh35 ca35_0_15) (runM Pg E35_0 sh35 c35_0_15) [18,19] td35_15 K (ys.map xN.ex) σ:=fun α K ys=>by funext a b c;exact t35_0_0 α K ys a b c
abbrev Tf35_0:Type 1:=(α:Type)->Rows->(Int->Int->Op α)->Op α
def f35_0g (vV35_0_0:TV35_0_0)(c:Tf32_0)(α:Type)(d:Rows)(k1:Int->Int->Op α):Op α:=
 c α d
 (fun a b=>cK (b != 0)
 (k1 0 b)
 (qK (some (idxL (List.length a))) xN fun e=>vV35_0_0 α a
 (k1 0 17)
 (fun g=>k1 g 0) e ))
def f35_0 (α:Type)(a:Rows)(k1:Int->Int->Op α):Op α:=f35_0g V35_0_0 f32_0 α a k1
def pa35_0:PT (List DV):=pA [pV false [dL]]
def Fn35_0 (v:Tf35_0)(α:Type)(k:RT α):Rows->Op α:=fun a=>v α a (fun b c=>ur35_0_0 k b c)
def cm35_0g (vV35_0_0:TV35_0_0):MCode:=(.seq (.region r35_2 [] (tO [0,2,3])) (.seq (.region r35_4 [] (tO [2,3,4,5])) (.seq (.seq (.region r35_7 [] (tO [2,3,4,5,14])) (.cond (.tmp 14) (.seq (.region r35_10 [] (tO [2,3])) .ret) .skip)) (.seq (.seq (.region r35_13 [] (some ⟨[2,3,16,17],true,[⟨false,16,0,20016,2⟩],[]⟩)) (.block 0 (.rangeF (.tmp 17) [18,19] td35_15 [⟨true,xN,p35_0_0,F35_0_0 vV35_0_0⟩] ca35_0_15 c35_0_15))) (.seq (.region r35_26 [] (tO [2,3])) .ret)))))
def cm35_0:MCode:=cm35_0g V35_0_0
theorem gm35_0:cm35_0.Good Pg E35_0 sh35:=⟨trivial,trivial,⟨trivial,⟨trivial,trivial⟩,trivial⟩,⟨trivial,⟨ga35_0_15,g35_0_15⟩,m35_0_0,trivial⟩,trivial,trivial⟩
theorem fm35_0g (a:Tf32_0)(b:Tf85_0)(vV35_0_0:TV35_0_0)(α:Type)(k:RT α):Fn35_0 (f35_0g vV35_0_0 a) α k=pa35_0.unc fun ds=>fnM Pg (E35_0g a b) sh35 (cm35_0g vV35_0_0) rs35 k ds:=by kernel_rfl
theorem fm35_0:∀ (α:Type) (k:RT α),Fn35_0 f35_0 α k=pa35_0.unc fun ds=>fnM Pg E35_0 sh35 cm35_0 rs35 k ds:=fm35_0g f32_0 f85_0 V35_0_0
theorem is35:FnIs Pg 35 nt35 tr35 tl35 cm35_0.erase rs35:=⟨Tryz.f35,Tryz.func35,rfl,by kernel_rfl,by kernel_rfl,by kernel_rfl⟩
theorem io35_0:InstOk Pg 35 nt35 ⟨pa35_0,Fn35_0 f35_0⟩:=inst_ok eo35_0 followsTry is35 ⟨⟨sh35,cm35_0,by kernel_rfl,gm35_0,fm35_0⟩⟩
abbrev nt34:Nat:=30
def sh34:SG:=[(22,[.cpx .f64,.int .i64]),(26,[.cpx .f64,.int .i64]),(29,iT),(20,[.cpx .f64,.int .i64])]
def r34_2:LA:=[oO 2 (.alloc [(cI 0)]),oO 3 (.alloc [(cI 0)])]
def r34_4:LA:=[oM 10 0,oO 11 (.call 32 [.tmp 10]),oM 9 11,oO 12 (.extract 0 (.tmp 9)),oO 13 (.extract 1 (.tmp 9)),oM 4 12,oM 5 13]
def r34_7:LA:=[oM 14 5,oO 15 (.bin .neq 26 (.tmp 14) (kI 0))]
def r34_10:LA:=[oM 16 5,oD (.store 1 (.tmp 2) (kI 0)),sD 1 3 16]
def r34_12:LA:=[oO 6 (.alloc [(cI 0)]),oD (.store 1 (.tmp 6) (kI 2))]
def r34_15:LA:=[oM 17 4,oO 18 (.call 84 [.tmp 17])]
def td34_17:OT:=(some ⟨[2,3,6,17,18],true,[⟨false,17,0,20017,2⟩],[]⟩)
def r34_18:LA:=[oO 8 (.alloc [(.d (.v (.complex Go.FloatKind.f64 0 0))),(cI 0)]),sD 2 8 20]
def r34_22:LA:=[lA 22 2 8,oO 23 (.call 85 [.tmp 22]),oO 24 (.pure (oB (.unOp .not 4 (.tmp 23)) 4)),oM 21 24]
def r34_25:LA:=[oD (.store 1 (.tmp 2) (kI 0)),oD (.store 1 (.tmp 3) (kI 0))]
def r34_27:LA:=[lA 26 2 8,oO 27 (.build [(.d (.v (.complex Go.FloatKind.f64 0 0))),(cI 0)] []),oO 28 (.bin .neq 45 (.tmp 26) (.tmp 27)),oM 25 28]
def r34_29:LA:=[oD (.store 1 (.tmp 6) (kI 1))]
def r34_31:LA:=[lD 29 6,sD 1 2 29,oD (.store 1 (.tmp 3) (kI 0))]
def tr34:TG:=[tT 0 [0,2,3],tT 1 [2,3,4,5],tT 2 [2,3,4,5,15],tT 3 [2,3],tT 4 [2,3,4,6],(5,⟨[2,3,6,17,18],true,[⟨false,17,0,20017,2⟩],[]⟩),tT 6 [2,3,6,8],tT 7 [2,3,6,8,21],tT 8 [2,3],tT 9 [2,3,6,25],tT 10 [2,3,6],tT 11 [2,3]]
def tl34:TG:=[(7,⟨[2,3,6,17,18],true,[⟨false,17,0,20017,2⟩],[]⟩)]
def rs34:List AResV:=[.cell 2 false 1,.cell 3 false 1]
def p34_0_0:PT St:=pS [sP 2,sP 3,sP 6,sl 17 (aV false [(cRef 20017)]),sl 18 (aV false [(cFn 121 [(pCp 18)])])] [eBox 2 [xI],eBox 3 [xI],eBox 6 [xI],eOwn 20017 2,eDead 18]
def u34_0_0 {β:Type}(g:St->β):Int->Int->Int->Rows->β:=p34_0_0.unc g
def pr34_0_0:PT (List RV):=pRs [wI,wI]
def ur34_0_0 {β:Type}(g:List RV->β):Int->Int->β:=pr34_0_0.unc g
def E34_0g (a:Tf32_0)(b:Tf85_0):EnvK:=EnvK.ofP (EnvK.of [⟨32,nt32,[⟨pa32_0,Fn32_0 a⟩]⟩,⟨85,nt85,[⟨pa85_0,Fn85_0 b⟩]⟩] noSeq) [(84,[1000121,0]),(121,[2000000,2])]
def E34_0:EnvK:=E34_0g f32_0 f85_0
theorem eo34_0:E34_0.Ok Pg:=EnvK.ofP_ok (EnvK.of_ok noSeq_ok ⟨⟨io32_0,trivial⟩,⟨io85_0,trivial⟩,trivial⟩) ⟨ptr84,ptr121,trivial⟩
def ca34_0_17:MCode:=(.region r34_18 [] (tO [2,3,6,8]))
theorem ga34_0_17:ca34_0_17.Good Pg E34_0 sh34:=trivial
def c34_0_17g:MCode:=(.block 1 (.block 2 (.seq (.region r34_22 [] (tO [2,3,6,8,21])) (.cond (.tmp 21) (.seq (.region r34_25 [] (tO [2,3])) .ret) (.seq (.region r34_27 [] (tO [2,3,6,25])) (.cond (.tmp 25) (.region r34_29 [] (tO [2,3,6])) .skip))))))
def c34_0_17:MCode:=c34_0_17g
theorem g34_0_17:c34_0_17.Good Pg E34_0 sh34:=⟨trivial,⟨trivial,trivial⟩,trivial,trivial,trivial⟩
def S34_0_0g (e:Tf85_0)(α:Type)(g:Rows)(h:Int)(a:Int)(kn:Int->Op α)(k1:Int->Op α)(k2:Int->Op α):Op α:=
 ldK g (Int.toNat h) 0 [.cpx .f64,.int .i64]
 (fun b c d=>e α b c d
 (fun i=>cK (!i)
 (k2 a)
 (cK (!((Op.floatEq .f64 b 0 && Op.floatEq .f64 c 0) && ((d == 0) && true)))
 (kn 1)
 (kn a))))
def S34_0_0 (α:Type)(a:Rows)(b:Int)(c:Int)(kn:Int->Op α)(k1:Int->Op α)(k2:Int->Op α):Op α:=S34_0_0g f85_0 α a b c kn k1 k2
def V34_0_0 (α:Type)(b:Rows)(k1:Int->Op α)(k2:Int->Op α):List Int->Int->Op α
 | [],a=>k1 a
 | c::ys,a=>S34_0_0 α b c a (V34_0_0 α b k1 k2 ys) k1 k2
abbrev TV34_0_0:Type 1:=(α:Type)->Rows->(Int->Op α)->(Int->Op α)->List Int->Int->Op α
def F34_0_0 (v:TV34_0_0)(α:Type)(K:KT α)(ys:List Int):Int->Int->Int->Rows->Op α:=fun c d e a=>v α a (fun b=>u34_0_0 (K .normal) c d b a) (fun b=>u34_0_0 (K .ret) 0 0 b a) ys e
theorem r34_0_0g (h:Tf32_0)(c:Tf85_0)(α:Type)(K:KT α)(Kn:SK α)(i:Int)(d e b:Int)(a:Rows):u34_0_0 (fun σ=>roundT sh34 true (.tmp 18) (runM Pg (E34_0g h c) sh34 ca34_0_17) (runM Pg (E34_0g h c) sh34 c34_0_17) [19,20] td34_17 Kn K (xN.ex i) σ) d e b a=S34_0_0g c α a i b (fun b=>u34_0_0 Kn d e b a) (fun g=>u34_0_0 (K .normal) d e g a) (fun g=>u34_0_0 (K .ret) 0 0 g a):=by kernel_rfl
theorem r34_0_0 (α:Type)(K:KT α)(Kn:SK α)(e:Int)(c d b:Int)(a:Rows):u34_0_0 (fun σ=>roundT sh34 true (.tmp 18) (runM Pg E34_0 sh34 ca34_0_17) (runM Pg E34_0 sh34 c34_0_17) [19,20] td34_17 Kn K (xN.ex e) σ) c d b a=S34_0_0 α a e b (fun b=>u34_0_0 Kn c d b a) (fun g=>u34_0_0 (K .normal) c d g a) (fun g=>u34_0_0 (K .ret) 0 0 g a):=r34_0_0g f32_0 f85_0 α K Kn e c d b a
theorem t34_0_0 (α:Type)(K:KT α):∀ (ys:List Int) (d e b:Int) (a:Rows),V34_0_0 α a (fun c=>u34_0_0 (K .normal) d e c a) (fun c=>u34_0_0 (K .ret) 0 0 c a) ys b=u34_0_0 (roundsK sh34 true (.tmp 18) (runM Pg E34_0 sh34 ca34_0_17) (runM Pg E34_0 sh34 c34_0_17) [19,20] td34_17 K (ys.map xN.ex)) d e b a:=by
 intro ys
 induction ys with
 | nil=>intros;rfl
 | cons g ys ih=>intro d e b a;exact (congrArg (fun kn=>S34_0_0 α a g b kn (fun c=>u34_0_0 (K .normal) d e c a) (fun c=>u34_0_0 (K .ret) 0 0 c a)) (funext fun b=>ih d e b a)).trans (r34_0_0 α K (roundsK sh34 true (.tmp 18) (runM Pg E34_0 sh34 ca34_0_17) (runM Pg E34_0 sh34 c34_0_17) [19,20] td34_17 K (ys.map xN.ex)) g d e b a).symm
theorem m34_0_0:∀ (α:Type) (K:KT α) (ys:List Int),F34_0_0 V34_0_0 α K ys=p34_0_0.unc fun σ=>roundsK sh34 true (.tmp 18) (runM Pg E34_0 sh34 ca34_0_17) (runM Pg E34_0 sh34 c34_0_17) [19,20] td34_17 K (ys.map xN.ex) σ:=fun α K ys=>by funext a b c d;exact t34_0_0 α K ys a b c d
abbrev Tf34_0:Type 1:=(α:Type)->Rows->(Int->Int->Op α)->Op α
def f34_0g (vV34_0_0:TV34_0_0)(c:Tf32_0)(α:Type)(d:Rows)(k1:Int->Int->Op α):Op α:=
 c α d
 (fun a b=>cK (b != 0)
 (k1 0 b)
 (qK (some (idxL (List.length a))) xN fun e=>vV34_0_0 α a
 (fun g=>k1 g 0)
 (fun h=>k1 0 0) e 2))
def f34_0 (α:Type)(a:Rows)(k1:Int->Int->Op α):Op α:=f34_0g V34_0_0 f32_0 α a k1
def pa34_0:PT (List DV):=pA [pV false [dL]]
def Fn34_0 (v:Tf34_0)(α:Type)(k:RT α):Rows->Op α:=fun a=>v α a (fun b c=>ur34_0_0 k b c)
def cm34_0g (vV34_0_0:TV34_0_0):MCode:=(.seq (.region r34_2 [] (tO [0,2,3])) (.seq (.region r34_4 [] (tO [2,3,4,5])) (.seq (.seq (.region r34_7 [] (tO [2,3,4,5,15])) (.cond (.tmp 15) (.seq (.region r34_10 [] (tO [2,3])) .ret) .skip)) (.seq (.region r34_12 [] (tO [2,3,4,6])) (.seq (.seq (.region r34_15 [] (some ⟨[2,3,6,17,18],true,[⟨false,17,0,20017,2⟩],[]⟩)) (.block 0 (.rangeF (.tmp 18) [19,20] td34_17 [⟨true,xN,p34_0_0,F34_0_0 vV34_0_0⟩] ca34_0_17 c34_0_17))) (.seq (.region r34_31 [] (tO [2,3])) .ret))))))
def cm34_0:MCode:=cm34_0g V34_0_0
theorem gm34_0:cm34_0.Good Pg E34_0 sh34:=⟨trivial,trivial,⟨trivial,⟨trivial,trivial⟩,trivial⟩,trivial,⟨trivial,⟨ga34_0_17,g34_0_17⟩,m34_0_0,trivial⟩,trivial,trivial⟩
theorem fm34_0g (a:Tf32_0)(b:Tf85_0)(vV34_0_0:TV34_0_0)(α:Type)(k:RT α):Fn34_0 (f34_0g vV34_0_0 a) α k=pa34_0.unc fun ds=>fnM Pg (E34_0g a b) sh34 (cm34_0g vV34_0_0) rs34 k ds:=by kernel_rfl
theorem fm34_0:∀ (α:Type) (k:RT α),Fn34_0 f34_0 α k=pa34_0.unc fun ds=>fnM Pg E34_0 sh34 cm34_0 rs34 k ds:=fm34_0g f32_0 f85_0 V34_0_0
theorem is34:FnIs Pg 34 nt34 tr34 tl34 cm34_0.erase rs34:=⟨Tryz.f34,Tryz.func34,rfl,by kernel_rfl,by kernel_rfl,by kernel_rfl⟩
theorem io34_0:InstOk Pg 34 nt34 ⟨pa34_0,Fn34_0 f34_0⟩:=inst_ok eo34_0 followsTry is34 ⟨⟨sh34,cm34_0,by kernel_rfl,gm34_0,fm34_0⟩⟩
abbrev nt7:Nat:=156
def sh7:SG:=[]
def r7_2:LA:=[oO 2 (.mv (.const (.bool false)))]
def r7_5:LA:=[oO 15 (.call 9 []),oO 16 (.pure (oB (.unOp .not 4 (.tmp 15)) 4))]
def r7_8:LA:=[oO 2 (.mv (.const (.bool false)))]
def r7_11:LA:=[oM 17 0,oO 18 (.len (.tmp 17)),bK 19 .gtr 18 110,oM 20 19,oG 21 (.mv (.tmp 0)) 20 false,oG 22 (.len (.tmp 21)) 20 false,oG 23 (.bin .quo 3 (.tmp 22) (kI 3)) 20 false,oG 24 (.call 10 [.tmp 23]) 20 false,oG 25 (.pure (oB (.unOp .not 4 (.tmp 24)) 4)) 20 false,oO 26 (.pick (.tmp 20) (.const (.bool true)) (.tmp 25))]
def r7_14:LA:=[oO 2 (.mv (.const (.bool true)))]
def r7_16:LA:=[oM 28 0,oO 29 (.call 33 [.tmp 28]),oO 30 (.call 32 [.tmp 29]),oM 27 30,oO 31 (.extract 0 (.tmp 27)),oO 32 (.extract 1 (.tmp 27)),oM 3 31,oM 4 32]
def r7_18:LA:=[oM 34 0,oO 35 (.call 33 [.tmp 34]),oO 36 (.call 34 [.tmp 35]),oM 33 36,oO 37 (.extract 0 (.tmp 33)),oO 38 (.extract 1 (.tmp 33)),oM 5 37,oM 6 38]
def r7_20:LA:=[oM 40 0,oO 41 (.call 33 [.tmp 40]),oO 42 (.call 35 [.tmp 41]),oM 39 42,oO 43 (.extract 0 (.tmp 39)),oO 44 (.extract 1 (.tmp 39)),oM 7 43,oM 8 44]
def r7_22:LA:=[oM 46 0,oO 47 (.call 33 [.tmp 46]),oO 48 (.call 36 [.tmp 47]),oM 45 48,oO 49 (.extract 0 (.tmp 45)),oO 50 (.extract 1 (.tmp 45)),oM 9 49,oM 10 50]
def r7_24:LA:=[oM 51 0,oO 52 (.call 33 [.tmp 51]),oO 53 (.call 37 [.tmp 52]),oM 11 53]
def r7_26:LA:=[oO 12 (.mv (.const (.slice none 0 0)))]
def r7_29:LA:=[oM 54 11,bK 55 .eql 54 0]
def r7_31:LA:=[oM 57 0,oO 58 (.call 33 [.tmp 57]),oO 59 (.call 38 [.tmp 58]),oM 56 59,oO 60 (.extract 0 (.tmp 56)),oO 61 (.extract 1 (.tmp 56)),oM 12 60,oM 11 61]
def r7_34:LA:=[oM 62 11,bK 63 .neq 62 0]
def r7_37:LA:=[oM 64 4,oM 65 11,bT 66 .eql 64 65,oM 67 66,oG 68 (.mv (.tmp 6)) 67 true,oG 69 (.mv (.tmp 11)) 67 true,oG 70 (.bin .eql 3 (.tmp 68) (.tmp 69)) 67 true,oO 71 (.pick (.tmp 67) (.tmp 70) (.const (.bool false))),oM 72 71,oG 73 (.mv (.tmp 8)) 72 true,oG 74 (.mv (.tmp 11)) 72 true,oG 75 (.bin .eql 3 (.tmp 73) (.tmp 74)) 72 true,oO 76 (.pick (.tmp 72) (.tmp 75) (.const (.bool false))),oM 77 76,oG 78 (.mv (.tmp 10)) 77 true,oG 79 (.mv (.tmp 11)) 77 true,oG 80 (.bin .eql 3 (.tmp 78) (.tmp 79)) 77 true,oO 81 (.pick (.tmp 77) (.tmp 80) (.const (.bool false))),oM 82 81,oG 83 (.mv (.tmp 3)) 82 true,oG 84 (.len (.tmp 83)) 82 true,oG 85 (.bin .eql 3 (.tmp 84) (kI 0)) 82 true,oO 86 (.pick (.tmp 82) (.tmp 85) (.const (.bool false))),oM 87 86,oG 88 (.mv (.tmp 5)) 87 true,oG 89 (.bin .eql 3 (.tmp 88) (kI 0)) 87 true,oO 90 (.pick (.tmp 87) (.tmp 89) (.const (.bool false))),oM 91 90,oG 92 (.mv (.tmp 7)) 91 true,oG 93 (.bin .eql 3 (.tmp 92) (kI 0)) 91 true,oO 94 (.pick (.tmp 91) (.tmp 93) (.const (.bool false))),oM 95 94,oG 96 (.mv (.tmp 9)) 95 true,oG 97 (.len (.tmp 96)) 95 true,oG 98 (.bin .eql 3 (.tmp 97) (kI 0)) 95 true,oO 99 (.pick (.tmp 95) (.tmp 98) (.const (.bool false))),oM 2 99]
def r7_39:LA:=[oM 100 12,oO 101 (.call 39 [.tmp 100]),oM 13 101]
def r7_42:LA:=[oM 102 4,oO 103 (.bin .neq 26 (.tmp 102) (kI 0)),oM 104 103,oG 105 (.mv (.tmp 3)) 104 false,oG 106 (.mv (.tmp 12)) 104 false,oG 107 (.call 40 [.tmp 106]) 104 false,oG 108 (.call 15 [(.tmp 105),(.tmp 107)]) 104 false,oG 109 (.pure (oB (.unOp .not 4 (.tmp 108)) 4)) 104 false,oO 110 (.pick (.tmp 104) (.const (.bool true)) (.tmp 109)),oM 111 110,oG 112 (.mv (.tmp 6)) 111 false,oG 113 (.bin .neq 26 (.tmp 112) (kI 0)) 111 false,oO 114 (.pick (.tmp 111) (.const (.bool true)) (.tmp 113)),oM 115 114,oG 116 (.mv (.tmp 5)) 115 false,oG 117 (.mv (.tmp 12)) 115 false,oG 118 (.call 41 [.tmp 117]) 115 false,oG 119 (.bin .neq 3 (.tmp 116) (.tmp 118)) 115 false,oO 120 (.pick (.tmp 115) (.const (.bool true)) (.tmp 119)),oM 121 120,oG 122 (.mv (.tmp 7)) 121 false,oG 123 (.mv (.tmp 13)) 121 false,oG 124 (.pure (oB (.call { callee:=.builtin .max,args:=#[(.tmp 123),(kI 0)],argTypes:=#[3,3] }) 3)) 121 false,oG 125 (.bin .neq 3 (.tmp 122) (.tmp 124)) 121 false,oO 126 (.pick (.tmp 121) (.const (.bool true)) (.tmp 125)),oM 127 126,oG 128 (.mv (.tmp 8)) 127 false,oG 129 (.bin .eql 26 (.tmp 128) (kI 0)) 127 false,oG 130 (.mv (.tmp 13)) 127 false,oG 131 (.bin .geq 3 (.tmp 130) (kI 0)) 127 false,oG 132 (.bin .neq 4 (.tmp 129) (.tmp 131)) 127 false,oO 133 (.pick (.tmp 127) (.const (.bool true)) (.tmp 132)),oM 134 133,oG 135 (.mv (.tmp 13)) 134 false,oG 136 (.bin .lss 3 (.tmp 135) (kI 0)) 134 false,oG 137 (.mv (.tmp 136)) 134 false,oG 138 (.mv (.tmp 8)) 137 true,oG 139 (.bin .neq 26 (.tmp 138) (kI 17)) 137 true,oG 140 (.pick (.tmp 137) (.tmp 139) (.const (.bool false))) 134 false,oO 141 (.pick (.tmp 134) (.const (.bool true)) (.tmp 140))]
def r7_45:LA:=[oO 2 (.mv (.const (.bool false)))]
def r7_47:LA:=[oM 143 12,oO 144 (.call 42 [.tmp 143]),oM 142 144,oO 145 (.extract 0 (.tmp 142)),oO 146 (.extract 1 (.tmp 142)),oM 14 145,oM 11 146]
def r7_49:LA:=[oM 147 10,oM 148 11,bT 149 .eql 147 148,oM 150 149,oG 151 (.mv (.tmp 9)) 150 true,oG 152 (.mv (.tmp 14)) 150 true,oG 153 (.call 40 [.tmp 152]) 150 true,oG 154 (.call 15 [(.tmp 151),(.tmp 153)]) 150 true,oO 155 (.pick (.tmp 150) (.tmp 154) (.const (.bool false))),oM 2 155]
def tr7:TG:=[tT 0 [0],tT 1 [0,16],tT 2 [2],tT 3 [0,26],tT 4 [2],tT 5 [0,3,4],tT 6 [0,3,4,5,6],tT 7 [0,3,4,5,6,7,8],tT 8 [0,3,4,5,6,7,8,9,10],tT 9 [0,3,4,5,6,7,8,9,10,11],tT 10 [0,3,4,5,6,7,8,9,10,11,12],tT 11 [0,3,4,5,6,7,8,9,10,11,12,55],tT 12 [3,4,5,6,7,8,9,10,11,12],tT 13 [3,4,5,6,7,8,9,10,11,12,63],tT 14 [2],tT 15 [3,4,5,6,7,8,9,10,12,13],tT 16 [9,10,12,141],tT 17 [2],tT 18 [9,10,11,14],tT 19 [2]]
def tl7:TG:=[]
def rs7:List AResV:=[.tmp 2]
def p7_0_0:PT St:=pS [sl 0 (aV false [(cD dL)]),sl 3 (aV false [(cRef 30)]),sI 4,sI 5,sI 6,sI 7,sI 8,sl 9 (aV false [(cRef 48)]),sI 10,sI 11,sl 12 (aV false [cNil])] [eOwn 30 2,eOwn 48 2]
def u7_0_0 {β:Type}(g:St->β):Rows->Int->Int->Int->Int->Int->Int->Int->Rows->Rows->β:=p7_0_0.unc g
def p7_0_1:PT St:=pS [sl 3 (aV false [(cRef 30)]),sI 4,sI 5,sI 6,sI 7,sI 8,sl 9 (aV false [(cRef 48)]),sI 10,sI 11,sl 12 (aV false [(cRef 59)])] [eOwn 30 2,eOwn 48 2,eOwn 59 3]
def u7_0_1 {β:Type}(g:St->β):Int->Int->Int->Int->Int->Int->Int->Rows->Rows->Rows->β:=p7_0_1.unc g
def p7_0_2:PT St:=pS [sl 0 (aV false [(cD dL)]),sl 3 (aV false [(cRef 30)]),sI 4,sI 5,sI 6,sI 7,sI 8,sl 9 (aV false [(cRef 48)]),sI 10,sI 11,sl 12 (aV false [cNil]),sl 55 (aV false [(cD dB)])] [eOwn 30 2,eOwn 48 2]
def u7_0_2 {β:Type}(g:St->β):Rows->Int->Int->Int->Int->Int->Int->Int->Bool->Rows->Rows->β:=p7_0_2.unc g
def p7_0_3:PT St:=pS [sl 3 (aV false [(cRef 30)]),sI 4,sI 5,sI 6,sI 7,sI 8,sl 9 (aV false [(cRef 48)]),sI 10,sl 12 (aV false [(cRef 59)]),sI 13] [eOwn 30 2,eOwn 48 2,eOwn 59 3]
def u7_0_3 {β:Type}(g:St->β):Int->Int->Int->Int->Int->Int->Int->Rows->Rows->Rows->β:=p7_0_3.unc g
def p7_0_4:PT St:=pS [sl 9 (aV false [(cRef 48)]),sI 10,sl 12 (aV false [(cRef 59)]),sl 141 (aV false [(cD dB)])] [eOwn 48 2,eOwn 59 3]
def u7_0_4 {β:Type}(g:St->β):Int->Bool->Rows->Rows->β:=p7_0_4.unc g
def p7_0_5:PT St:=pS [sl 3 (aV false [(cRef 30)]),sI 4,sI 5,sI 6,sI 7,sI 8,sl 9 (aV false [(cRef 48)]),sI 10,sl 12 (aV false [cNil]),sI 13] [eOwn 30 2,eOwn 48 2]
def u7_0_5 {β:Type}(g:St->β):Int->Int->Int->Int->Int->Int->Int->Rows->Rows->β:=p7_0_5.unc g
def p7_0_6:PT St:=pS [sl 9 (aV false [(cRef 48)]),sI 10,sl 12 (aV false [cNil]),sl 141 (aV false [(cD dB)])] [eOwn 48 2]
def u7_0_6 {β:Type}(g:St->β):Int->Bool->Rows->β:=p7_0_6.unc g
def pr7_0_0:PT (List RV):=pRs [pR false [rD dB]]
def ur7_0_0 {β:Type}(g:List RV->β):Bool->β:=pr7_0_0.unc g
def E7_0g (a:Tf9_0)(b:Tf10_0)(c:Tf33_0)(d:Tf32_0)(e:Tf34_0)(g:Tf35_0)(h:Tf36_0)(i:Tf37_0)(j:Tf38_0)(l:Tf39_0)(m:Tf40_0)(o:Tf15_0)(p:Tf41_0)(q:Tf42_0):EnvK:=EnvK.of [⟨9,nt9,[⟨pa9_0,Fn9_0 a⟩]⟩,⟨10,nt10,[⟨pa10_0,Fn10_0 b⟩]⟩,⟨33,nt33,[⟨pa33_0,Fn33_0 c⟩]⟩,⟨32,nt32,[⟨pa32_0,Fn32_0 d⟩]⟩,⟨34,nt34,[⟨pa34_0,Fn34_0 e⟩]⟩,⟨35,nt35,[⟨pa35_0,Fn35_0 g⟩]⟩,⟨36,nt36,[⟨pa36_0,Fn36_0 h⟩]⟩,⟨37,nt37,[⟨pa37_0,Fn37_0 i⟩]⟩,⟨38,nt38,[⟨pa38_0,Fn38_0 j⟩]⟩,⟨39,nt39,[⟨pa39_0,Fn39_0 l⟩]⟩,⟨40,nt40,[⟨pa40_0,Fn40_0 m⟩]⟩,⟨15,nt15,[⟨pa15_0,Fn15_0 o⟩]⟩,⟨41,nt41,[⟨pa41_0,Fn41_0 p⟩]⟩,⟨42,nt42,[⟨pa42_0,Fn42_0 q⟩]⟩] noSeq
def E7_0:EnvK:=E7_0g f9_0 f10_0 f33_0 f32_0 f34_0 f35_0 f36_0 f37_0 f38_0 f39_0 f40_0 f15_0 f41_0 f42_0
theorem eo7_0:E7_0.Ok Pg:=EnvK.of_ok noSeq_ok ⟨⟨io9_0,trivial⟩,⟨io10_0,trivial⟩,⟨io33_0,trivial⟩,⟨io32_0,trivial⟩,⟨io34_0,trivial⟩,⟨io35_0,trivial⟩,⟨io36_0,trivial⟩,⟨io37_0,trivial⟩,⟨io38_0,trivial⟩,⟨io39_0,trivial⟩,⟨io40_0,trivial⟩,⟨io15_0,trivial⟩,⟨io41_0,trivial⟩,⟨io42_0,trivial⟩,trivial⟩
def c7_0_41g:MCode:=(.region r7_42 [] (tO [9,10,12,141]))
def c7_0_41:MCode:=c7_0_41g
theorem g7_0_41:c7_0_41.Good Pg E7_0 sh7:=trivial
abbrev TJ7_0_1:Type 1:=(α:Type)->Int->Int->Int->Int->Int->Int->Rows->Rows->(Bool->Op α)->Op α
def J7_0_1g (e:Tf15_0)(g:Tf40_0)(h:Tf41_0)(α:Type)(i j l m b a:Int)(o c:Rows)(k1:Bool->Op α):Op α:=
 cK (i != 0)
 (k1 true)
 (g α c
 (fun d=>flatK [d]
 (e α o d
 (fun p=>cK (!p)
 (k1 true)
 (cK (l != 0)
 (k1 true)
 (h α c
 (fun q=>cK (j != q)
 (k1 true)
 (cK (m != (if 0 > a then 0 else a))
 (k1 true)
 (cK (!((b == 0) == (decide (0<=a))))
 (k1 true)
 (cK (decide (a < 0))
 (k1 (b != 17))
 (k1 false)))))))))))
def J7_0_1 (α:Type)(a b c d e g:Int)(h i:Rows)(k1:Bool->Op α):Op α:=J7_0_1g f15_0 f40_0 f41_0 α a b c d e g h i k1
def F7_0_1 (v:TJ7_0_1)(α:Type)(K:KT α):Int->Int->Int->Int->Int->Int->Int->Rows->Rows->Rows->Op α:=fun b c d e g h i j l a=>v α b c d e g i j a (fun m=>u7_0_4 (K .normal) h m l a)
theorem m7_0_1g (d:Tf9_0)(e:Tf10_0)(g:Tf33_0)(h:Tf32_0)(i:Tf34_0)(j:Tf35_0)(l:Tf36_0)(m:Tf37_0)(o:Tf38_0)(p:Tf39_0)(a:Tf40_0)(b:Tf15_0)(c:Tf41_0)(q:Tf42_0)(α:Type)(K:KT α):F7_0_1 (J7_0_1g b a c) α K=p7_0_3.unc fun σ=>runM Pg (E7_0g d e g h i j l m o p a b c q) sh7 (c7_0_41g ) K σ:=by kernel_rfl
theorem m7_0_1:∀ (α:Type) (K:KT α),F7_0_1 J7_0_1 α K=p7_0_3.unc fun σ=>runM Pg E7_0 sh7 c7_0_41 K σ:=m7_0_1g f9_0 f10_0 f33_0 f32_0 f34_0 f35_0 f36_0 f37_0 f38_0 f39_0 f40_0 f15_0 f41_0 f42_0
abbrev TJ7_0_2:Type 1:=(α:Type)->Int->Int->Int->Int->Int->Int->Rows->(Bool->Op α)->Op α
def J7_0_2g (c:Tf15_0)(d:Tf40_0)(e:Tf41_0)(α:Type)(g h i j b a:Int)(l:Rows)(k1:Bool->Op α):Op α:=
 cK (g != 0)
 (k1 true)
 (d α ([]:Rows)
 (fun m=>c α l m
 (fun o=>cK (!o)
 (k1 true)
 (cK (i != 0)
 (k1 true)
 (e α ([]:Rows)
 (fun p=>cK (h != p)
 (k1 true)
 (cK (j != (if 0 > a then 0 else a))
 (k1 true)
 (cK (!((b == 0) == (decide (0<=a))))
 (k1 true)
 (cK (decide (a < 0))
 (k1 (b != 17))
 (k1 false))))))))))
def J7_0_2 (α:Type)(a b c d e g:Int)(h:Rows)(k1:Bool->Op α):Op α:=J7_0_2g f15_0 f40_0 f41_0 α a b c d e g h k1
def F7_0_2 (v:TJ7_0_2)(α:Type)(K:KT α):Int->Int->Int->Int->Int->Int->Int->Rows->Rows->Op α:=fun a b c d e g h i j=>v α a b c d e h i (fun l=>u7_0_6 (K .normal) g l j)
theorem m7_0_2g (d:Tf9_0)(e:Tf10_0)(g:Tf33_0)(h:Tf32_0)(i:Tf34_0)(j:Tf35_0)(l:Tf36_0)(m:Tf37_0)(o:Tf38_0)(p:Tf39_0)(a:Tf40_0)(b:Tf15_0)(c:Tf41_0)(q:Tf42_0)(α:Type)(K:KT α):F7_0_2 (J7_0_2g b a c) α K=p7_0_5.unc fun σ=>runM Pg (E7_0g d e g h i j l m o p a b c q) sh7 (c7_0_41g ) K σ:=by kernel_rfl
theorem m7_0_2:∀ (α:Type) (K:KT α),F7_0_2 J7_0_2 α K=p7_0_5.unc fun σ=>runM Pg E7_0 sh7 c7_0_41 K σ:=m7_0_2g f9_0 f10_0 f33_0 f32_0 f34_0 f35_0 f36_0 f37_0 f38_0 f39_0 f40_0 f15_0 f41_0 f42_0
def c7_0_27g:MCode:=(.seq (.region r7_29 [] (tO [0,3,4,5,6,7,8,9,10,11,12,55])) (.cond (.tmp 55) (.region r7_31 [] (tO [3,4,5,6,7,8,9,10,11,12])) .skip))
def c7_0_27:MCode:=c7_0_27g
theorem g7_0_27:c7_0_27.Good Pg E7_0 sh7:=⟨trivial,trivial,trivial⟩
abbrev TJ7_0_0:Type 1:=(α:Type)->Rows->Int->(Int->Rows->Op α)->(Bool->Op α)->Op α
def J7_0_0g (c:Tf33_0)(d:Tf38_0)(α:Type)(e:Rows)(a:Int)(k1:Int->Rows->Op α)(k2:Bool->Op α):Op α:=
 cK (a == 0)
 (c α e
 (fun g=>d α g
 (fun b h=>flatK [b]
 (k1 h b))))
 (k2 (a == 0))
def J7_0_0 (α:Type)(a:Rows)(b:Int)(k1:Int->Rows->Op α)(k2:Bool->Op α):Op α:=J7_0_0g f33_0 f38_0 α a b k1 k2
def F7_0_0 (v:TJ7_0_0)(α:Type)(K:KT α):Rows->Int->Int->Int->Int->Int->Int->Int->Rows->Rows->Op α:=fun b c d e g h i j l m=>v α b j (fun a o=>u7_0_1 (K .normal) c d e g h i a l m o) (fun a=>u7_0_2 (K .normal) b c d e g h i j a l m)
theorem m7_0_0g (c:Tf9_0)(d:Tf10_0)(a:Tf33_0)(e:Tf32_0)(g:Tf34_0)(h:Tf35_0)(i:Tf36_0)(j:Tf37_0)(b:Tf38_0)(l:Tf39_0)(m:Tf40_0)(o:Tf15_0)(p:Tf41_0)(q:Tf42_0)(α:Type)(K:KT α):F7_0_0 (J7_0_0g a b) α K=p7_0_0.unc fun σ=>runM Pg (E7_0g c d a e g h i j b l m o p q) sh7 (c7_0_27g ) K σ:=by kernel_rfl
theorem m7_0_0:∀ (α:Type) (K:KT α),F7_0_0 J7_0_0 α K=p7_0_0.unc fun σ=>runM Pg E7_0 sh7 c7_0_27 K σ:=m7_0_0g f9_0 f10_0 f33_0 f32_0 f34_0 f35_0 f36_0 f37_0 f38_0 f39_0 f40_0 f15_0 f41_0 f42_0
abbrev Tf7_0:Type 1:=(α:Type)->Rows->(Bool->Op α)->Op α
def f7_0g (B:TJ7_0_0)(C:TJ7_0_1)(D:TJ7_0_2)(F:Tf10_0)(q:Tf15_0)(G:Tf32_0)(c:Tf33_0)(H:Tf34_0)(I:Tf35_0)(J:Tf36_0)(L:Tf37_0)(r:Tf39_0)(s:Tf40_0)(t:Tf42_0)(M:Tf9_0)(α:Type)(a:Rows)(k1:Bool->Op α):Op α:=
 M α
 (cK (decide (110 < ((List.length a:Nat):Int)))
 (k1 true)
 (F α (w64 (Int.tdiv ((List.length a:Nat):Int) 3))
 (fun N=>cK (!N)
 (k1 true)
 (c α a
 (fun O=>G α O
 (fun d h=>flatK [d]
 (c α a
 (fun P=>H α P
 (fun i j=>c α a
 (fun Q=>I α Q
 (fun l m=>c α a
 (fun R=>J α R
 (fun e o=>flatK [e]
 (c α a
 (fun T=>L α T
 (fun b=>B α a b
 (fun g p=>cK (g != 0)
 (cK (h == g)
 (cK (j == g)
 (cK (m == g)
 (cK (o == g)
 (cK (((List.length d:Nat):Int) == 0)
 (cK (i == 0)
 (cK (l == 0)
 (k1 (((List.length e:Nat):Int) == 0))
 (k1 false))
 (k1 false))
 (k1 false))
 (k1 false))
 (k1 false))
 (k1 false))
 (k1 false))
 (r α p
 (fun U=>C α h i j l m U d p
 (fun V=>cK V
 (k1 false)
 (t α p
 (fun w W=>flatK [w]
 (cK (o == W)
 (s α w
 (fun z=>flatK [z]
 (q α e z
 (fun X=>k1 X))))
 (k1 false))))))))
 (fun a3=>cK (b != 0)
 (cK (h == b)
 (cK (j == b)
 (cK (m == b)
 (cK (o == b)
 (cK (((List.length d:Nat):Int) == 0)
 (cK (i == 0)
 (cK (l == 0)
 (k1 (((List.length e:Nat):Int) == 0))
 (k1 false))
 (k1 false))
 (k1 false))
 (k1 false))
 (k1 false))
 (k1 false))
 (k1 false))
 (r α ([]:Rows)
 (fun Y=>D α h i j l m Y d
 (fun Z=>cK Z
 (k1 false)
 (t α ([]:Rows)
 (fun a0 a1=>cK (o == a1)
 (s α a0
 (fun A=>flatK [A]
 (q α e A
 (fun a2=>k1 a2))))
 (k1 false)))))))))))))))))))))))
def f7_0 (α:Type)(a:Rows)(k1:Bool->Op α):Op α:=f7_0g J7_0_0 J7_0_1 J7_0_2 f10_0 f15_0 f32_0 f33_0 f34_0 f35_0 f36_0 f37_0 f39_0 f40_0 f42_0 f9_0 α a k1
def pa7_0:PT (List DV):=pA [pV false [dL]]
def Fn7_0 (v:Tf7_0)(α:Type)(k:RT α):Rows->Op α:=fun a=>v α a (fun b=>ur7_0_0 k b)
def cm7_0g (a:TJ7_0_0)(b:TJ7_0_1)(c:TJ7_0_2):MCode:=(.seq (.region r7_2 [] (tO [0])) (.seq (.seq (.region r7_5 [] (tO [0,16])) (.cond (.tmp 16) (.seq (.region r7_8 [] (tO [2])) .ret) .skip)) (.seq (.seq (.region r7_11 [] (tO [0,26])) (.cond (.tmp 26) (.seq (.region r7_14 [] (tO [2])) .ret) .skip)) (.seq (.region r7_16 [] (tO [0,3,4])) (.seq (.region r7_18 [] (tO [0,3,4,5,6])) (.seq (.region r7_20 [] (tO [0,3,4,5,6,7,8])) (.seq (.region r7_22 [] (tO [0,3,4,5,6,7,8,9,10])) (.seq (.region r7_24 [] (tO [0,3,4,5,6,7,8,9,10,11])) (.seq (.region r7_26 [] (tO [0,3,4,5,6,7,8,9,10,11,12])) (.seq (.mark [⟨p7_0_0,F7_0_0 a⟩] c7_0_27) (.seq (.seq (.region r7_34 [] (tO [3,4,5,6,7,8,9,10,11,12,63])) (.cond (.tmp 63) (.seq (.region r7_37 [] (tO [2])) .ret) .skip)) (.seq (.region r7_39 [] (tO [3,4,5,6,7,8,9,10,12,13])) (.seq (.seq (.mark [⟨p7_0_3,F7_0_1 b⟩,⟨p7_0_5,F7_0_2 c⟩] c7_0_41) (.cond (.tmp 141) (.seq (.region r7_45 [] (tO [2])) .ret) .skip)) (.seq (.region r7_47 [] (tO [9,10,11,14])) (.seq (.region r7_49 [] (tO [2])) .ret)))))))))))))))
def cm7_0:MCode:=cm7_0g J7_0_0 J7_0_1 J7_0_2
theorem gm7_0:cm7_0.Good Pg E7_0 sh7:=⟨trivial,⟨trivial,⟨trivial,trivial⟩,trivial⟩,⟨trivial,⟨trivial,trivial⟩,trivial⟩,trivial,trivial,trivial,trivial,trivial,trivial,⟨g7_0_27,m7_0_0,trivial⟩,⟨trivial,⟨trivial,trivial⟩,trivial⟩,trivial,⟨⟨g7_0_41,m7_0_1,m7_0_2,trivial⟩,⟨trivial,trivial⟩,trivial⟩,trivial,trivial,trivial⟩
theorem fm7_0g (a:Tf9_0)(b:Tf10_0)(c:Tf33_0)(d:Tf32_0)(e:Tf34_0)(g:Tf35_0)(h:Tf36_0)(i:Tf37_0)(s:Tf38_0)(j:Tf39_0)(l:Tf40_0)(m:Tf15_0)(t:Tf41_0)(o:Tf42_0)(p:TJ7_0_0)(q:TJ7_0_1)(r:TJ7_0_2)(α:Type)(k:RT α):Fn7_0 (f7_0g p q r b m d c e g h i j l o a) α k=pa7_0.unc fun ds=>fnM Pg (E7_0g a b c d e g h i s j l m t o) sh7 (cm7_0g p q r) rs7 k ds:=by kernel_rfl
theorem fm7_0:∀ (α:Type) (k:RT α),Fn7_0 f7_0 α k=pa7_0.unc fun ds=>fnM Pg E7_0 sh7 cm7_0 rs7 k ds:=fm7_0g f9_0 f10_0 f33_0 f32_0 f34_0 f35_0 f36_0 f37_0 f38_0 f39_0 f40_0 f15_0 f41_0 f42_0 J7_0_0 J7_0_1 J7_0_2
theorem is7:FnIs Pg 7 nt7 tr7 tl7 cm7_0.erase rs7:=⟨Tryz.f7,Tryz.func7,rfl,by kernel_rfl,by kernel_rfl,by kernel_rfl⟩
theorem io7_0:InstOk Pg 7 nt7 ⟨pa7_0,Fn7_0 f7_0⟩:=inst_ok eo7_0 followsTry is7 ⟨⟨sh7,cm7_0,by kernel_rfl,gm7_0,fm7_0⟩⟩
end
end Go.AM.K
