/- Printed by KGen. -/
import Derived.Test.YtmcplmhohldpjaaGreatRa
namespace Go.AM.K
open Go.Proofs
set_option maxRecDepth 100000
set_option linter.unusedVariables false
noncomputable section
abbrev nt167:Nat:=17
def tr167:TG:=[tT 0 [2,3,4],tT 1 [4,5]]
def ac167:ACode:=codeF Pg Tryz.f167 tr167 tl13
def E167_0:EnvK:=EnvK.of [⟨168,nt168,[⟨pa42_0,Fn168_0 f168_0⟩]⟩] noSeq
theorem eo167_0:E167_0.Ok Pg:=EnvK.of_ok noSeq_ok ⟨⟨io168_0,TT⟩,TT⟩
def f167_0g (α:Type)(a b c d e g:Int)(k1:Int->Int->Int->Op α):Op α:=
 f168_0 α a b d e
 (fun h i=>k1 h i (w64 (c+g)))
def f167_0:Tf177_0:=sld f167_0g
def Fn167_0 (v:Tf177_0)(α:Type)(k:RT α):I6 (Op α):=fun a b c d e g=>v α a b c d e g (fun h i j=>ur177_0_0 k h i j 0)
def cm167_0:MCode:=(emb ac167)
theorem io167_0:InstOk Pg 167 nt167 ⟨pa177_0,Fn167_0 f167_0⟩:=inst_s eo167_0 followsTry (codeF_is Tryz.func167 (by kernel_rfl)) sh177 cm167_0 (emb_erase _) (emb_good ac167) fun _ _=>by kernel_rfl
abbrev nt205:Nat:=15
def tr205:TG:=[tT 0 [0,1],tT 1 [0,1,6],tT 2 [0],tT 3 [0,10],tT 4 [0],tT 5 [4]]
def ac205:ACode:=codeF Pg Tryz.f205 tr205 tl13
def E205_0:EnvK:=EnvK.of [⟨187,nt187,[⟨pa183_0,Fn187_0 f187_0⟩]⟩] noSeq
theorem eo205_0:E205_0.Ok Pg:=EnvK.of_ok noSeq_ok ⟨⟨io187_0,TT⟩,TT⟩
abbrev Tf205_0:Type 1:=(α:Type)->Nat->Int->(Bool->Op α)->Op α
def f205_0g (α:Type)(a:Nat)(b:Int)(k1:Bool->Op α):Op α:=
 cK (b == 0)
 (f187_0 α a
 (fun c=>k1 ((FloatKind.format .f64).order c 9218868437227405311 == some Ordering.gt)))
 (cK (decide (b < 0))
 (k1 ((FloatKind.format .f64).order (Op.negFloat .f64 a) 9218868437227405311 == some Ordering.gt))
 (k1 ((FloatKind.format .f64).order a 9218868437227405311 == some Ordering.gt)))
def f205_0:Tf205_0:=sld f205_0g
def pa205_0:PT (List DV):=pA [pV false [(dF .f64)],vI]
def Fn205_0 (v:Tf205_0)(α:Type)(k:RT α):Nat->Int->Op α:=fun a b=>v α a b (fun c=>ur161_0_0 k c)
def cm205_0:MCode:=(emb ac205)
theorem io205_0:InstOk Pg 205 nt205 ⟨pa205_0,Fn205_0 f205_0⟩:=inst_s eo205_0 followsTry (codeF_is Tryz.func205 (by kernel_rfl)) sh19 cm205_0 (emb_erase _) (emb_good ac205) fun _ _=>by kernel_rfl
abbrev nt171:Nat:=17
def tr171:TG:=[tT 0 [0,1],tT 1 [4,5]]
def ac171:ACode:=codeF Pg Tryz.f171 tr171 tl13
def pr171_0_0:PT (List RV):=pRs [wI,pR false [rD dB]]
def ur171_0_0 {β:Type}(g:List RV->β):Int->Bool->β:=pr171_0_0.unc g
def E171_0:EnvK:=EnvK.of [⟨88,nt88,[⟨pa19_0,Fn88_0 f88_0⟩]⟩] noSeq
theorem eo171_0:E171_0.Ok Pg:=EnvK.of_ok noSeq_ok ⟨⟨io88_0,TT⟩,TT⟩
abbrev Tf171_0:Type 1:=(α:Type)->Int->Int->(Int->Bool->Op α)->Op α
def f171_0g (α:Type)(b a:Int)(k1:Int->Bool->Op α):Op α:=
 f88_0 α (w64 ((w64 (2*b))+a)) (w64 (2*a))
 (fun c=>gK (a != 0) (k1 c ((Int.tmod b a) != 0)))
def f171_0:Tf171_0:=sld f171_0g
def Fn171_0 (v:Tf171_0)(α:Type)(k:RT α):Int->Int->Op α:=fun a b=>v α a b (fun c d=>ur171_0_0 k c d)
def cm171_0:MCode:=(emb ac171)
theorem io171_0:InstOk Pg 171 nt171 ⟨pa19_0,Fn171_0 f171_0⟩:=inst_s eo171_0 followsTry (codeF_is Tryz.func171 (by kernel_rfl)) sh19 cm171_0 (emb_erase _) (emb_good ac171) fun _ _=>by kernel_rfl
abbrev nt140:Nat:=10
def tr140:TG:=[tT 0 [0,1],tT 1 [4]]
def ac140:ACode:=codeF Pg Tryz.f140 tr140 tl13
def E140_0:EnvK:=EnvK.of [⟨146,nt146,[⟨pa146_0,Fn146_0 f146_0⟩]⟩] noSeq
theorem eo140_0:E140_0.Ok Pg:=EnvK.of_ok noSeq_ok ⟨⟨io146_0,TT⟩,TT⟩
def f140_0g (α:Type)(b a:Int)(k1:Bool->Op α):Op α:=
 f146_0 α b (w64 (0 - a)) a
 (fun c=>k1 c)
def f140_0:Tf161_0:=sld f140_0g
def Fn140_0 (v:Tf161_0)(α:Type)(k:RT α):Int->Int->Op α:=fun a b=>v α a b (fun c=>ur161_0_0 k c)
def cm140_0:MCode:=(emb ac140)
theorem io140_0:InstOk Pg 140 nt140 ⟨pa19_0,Fn140_0 f140_0⟩:=inst_s eo140_0 followsTry (codeF_is Tryz.func140 (by kernel_rfl)) sh19 cm140_0 (emb_erase _) (emb_good ac140) fun _ _=>by kernel_rfl
abbrev nt108:Nat:=5
def tr108:TG:=[tT 0 [0],tT 1 [2]]
def ac108:ACode:=codeF Pg Tryz.f108 tr108 tl13
def E108_0:EnvK:=EnvK.of [⟨110,nt110,[⟨pa146_0,Fn110_0 f110_0⟩]⟩] noSeq
theorem eo108_0:E108_0.Ok Pg:=EnvK.of_ok noSeq_ok ⟨⟨io110_0,TT⟩,TT⟩
abbrev Tf108_0:Type 1:=(α:Type)->Int->(Bool->Op α)->Op α
def f108_0g (α:Type)(a:Int)(k1:Bool->Op α):Op α:=
 f110_0 α a 0 80000
 (fun b=>k1 b)
def f108_0:Tf108_0:=sld f108_0g
def Fn108_0 (v:Tf108_0)(α:Type)(k:RT α):Int->Op α:=fun a=>v α a (fun b=>ur161_0_0 k b)
def cm108_0:MCode:=(emb ac108)
theorem io108_0:InstOk Pg 108 nt108 ⟨pa215_0,Fn108_0 f108_0⟩:=inst_s eo108_0 followsTry (codeF_is Tryz.func108 (by kernel_rfl)) sh19 cm108_0 (emb_erase _) (emb_good ac108) fun _ _=>by kernel_rfl
abbrev nt109:Nat:=5
def tr109:TG:=[tT 0 [0],tT 1 [2]]
def ac109:ACode:=codeF Pg Tryz.f109 tr109 tl13
def E109_0:EnvK:=EnvK.of [⟨110,nt110,[⟨pa146_0,Fn110_0 f110_0⟩]⟩] noSeq
theorem eo109_0:E109_0.Ok Pg:=EnvK.of_ok noSeq_ok ⟨⟨io110_0,TT⟩,TT⟩
def f109_0g (α:Type)(a:Int)(k1:Bool->Op α):Op α:=
 f110_0 α a 0 1000000
 (fun b=>k1 b)
def f109_0:Tf108_0:=sld f109_0g
def Fn109_0 (v:Tf108_0)(α:Type)(k:RT α):Int->Op α:=fun a=>v α a (fun b=>ur161_0_0 k b)
def cm109_0:MCode:=(emb ac109)
theorem io109_0:InstOk Pg 109 nt109 ⟨pa215_0,Fn109_0 f109_0⟩:=inst_s eo109_0 followsTry (codeF_is Tryz.func109 (by kernel_rfl)) sh19 cm109_0 (emb_erase _) (emb_good ac109) fun _ _=>by kernel_rfl
abbrev nt117:Nat:=5
def tr117:TG:=[tT 0 [0],tT 1 [2]]
def ac117:ACode:=codeF Pg Tryz.f117 tr117 tl13
def E117_0:EnvK:=EnvK.of [⟨110,nt110,[⟨pa146_0,Fn110_0 f110_0⟩]⟩] noSeq
theorem eo117_0:E117_0.Ok Pg:=EnvK.of_ok noSeq_ok ⟨⟨io110_0,TT⟩,TT⟩
def f117_0g (α:Type)(a:Int)(k1:Bool->Op α):Op α:=
 f110_0 α a 1000 200000
 (fun b=>k1 b)
def f117_0:Tf108_0:=sld f117_0g
def Fn117_0 (v:Tf108_0)(α:Type)(k:RT α):Int->Op α:=fun a=>v α a (fun b=>ur161_0_0 k b)
def cm117_0:MCode:=(emb ac117)
theorem io117_0:InstOk Pg 117 nt117 ⟨pa215_0,Fn117_0 f117_0⟩:=inst_s eo117_0 followsTry (codeF_is Tryz.func117 (by kernel_rfl)) sh19 cm117_0 (emb_erase _) (emb_good ac117) fun _ _=>by kernel_rfl
abbrev nt116:Nat:=5
def tr116:TG:=[tT 0 [0],tT 1 [2]]
def ac116:ACode:=codeF Pg Tryz.f116 tr116 tl13
def E116_0:EnvK:=EnvK.of [⟨110,nt110,[⟨pa146_0,Fn110_0 f110_0⟩]⟩] noSeq
theorem eo116_0:E116_0.Ok Pg:=EnvK.of_ok noSeq_ok ⟨⟨io110_0,TT⟩,TT⟩
def f116_0g (α:Type)(a:Int)(k1:Bool->Op α):Op α:=
 f110_0 α a 0 9999
 (fun b=>k1 b)
def f116_0:Tf108_0:=sld f116_0g
def Fn116_0 (v:Tf108_0)(α:Type)(k:RT α):Int->Op α:=fun a=>v α a (fun b=>ur161_0_0 k b)
def cm116_0:MCode:=(emb ac116)
theorem io116_0:InstOk Pg 116 nt116 ⟨pa215_0,Fn116_0 f116_0⟩:=inst_s eo116_0 followsTry (codeF_is Tryz.func116 (by kernel_rfl)) sh19 cm116_0 (emb_erase _) (emb_good ac116) fun _ _=>by kernel_rfl
abbrev nt107:Nat:=5
def tr107:TG:=[tT 0 [0],tT 1 [2]]
def ac107:ACode:=codeF Pg Tryz.f107 tr107 tl13
def E107_0:EnvK:=EnvK.of [⟨110,nt110,[⟨pa146_0,Fn110_0 f110_0⟩]⟩] noSeq
theorem eo107_0:E107_0.Ok Pg:=EnvK.of_ok noSeq_ok ⟨⟨io110_0,TT⟩,TT⟩
def f107_0g (α:Type)(a:Int)(k1:Bool->Op α):Op α:=
 f110_0 α a 5000 80000
 (fun b=>k1 b)
def f107_0:Tf108_0:=sld f107_0g
def Fn107_0 (v:Tf108_0)(α:Type)(k:RT α):Int->Op α:=fun a=>v α a (fun b=>ur161_0_0 k b)
def cm107_0:MCode:=(emb ac107)
theorem io107_0:InstOk Pg 107 nt107 ⟨pa215_0,Fn107_0 f107_0⟩:=inst_s eo107_0 followsTry (codeF_is Tryz.func107 (by kernel_rfl)) sh19 cm107_0 (emb_erase _) (emb_good ac107) fun _ _=>by kernel_rfl
abbrev nt159:Nat:=19
def sh159:SG:=[(8,iT),(14,iT)]
def tr159:TG:=[tT 0 [1,2,3],tT 1 [6]]
def ac159:ACode:=codeF Pg Tryz.f159 tr159 tl13
def E159_0:EnvK:=EnvK.of [⟨94,nt94,[⟨pa146_0,Fn94_0 f94_0⟩]⟩] noSeq
theorem eo159_0:E159_0.Ok Pg:=EnvK.of_ok noSeq_ok ⟨⟨io94_0,TT⟩,TT⟩
abbrev Tf159_0:Type 1:=(α:Type)->Int->Int->Int->Int->(Bool->Op α)->Op α
def f159_0g (α:Type)(c d a b:Int)(k1:Bool->Op α):Op α:=
 f94_0 α c a b
 (fun e=>cK e
 (f94_0 α d a b
 (fun g=>k1 g))
 (k1 false))
def f159_0:Tf159_0:=sld f159_0g
def pa159_0:PT (List DV):=pA [pV true [(dI .i64),(dI .i64)],vI,vI]
def Fn159_0 (v:Tf159_0)(α:Type)(k:RT α):I4 (Op α):=fun a b c d=>v α a b c d (fun e=>ur161_0_0 k e)
def cm159_0:MCode:=(emb ac159)
theorem io159_0:InstOk Pg 159 nt159 ⟨pa159_0,Fn159_0 f159_0⟩:=inst_s eo159_0 followsTry (codeF_is Tryz.func159 (by kernel_rfl)) sh159 cm159_0 (emb_erase _) (emb_good ac159) fun _ _=>by kernel_rfl
abbrev nt158:Nat:=11
def sh158:SG:=[(4,iT),(8,iT)]
def tr158:TG:=[tT 0 [1],tT 1 [2]]
def ac158:ACode:=codeF Pg Tryz.f158 tr158 tl13
def E158_0:EnvK:=EnvK.of [⟨94,nt94,[⟨pa146_0,Fn94_0 f94_0⟩]⟩] noSeq
theorem eo158_0:E158_0.Ok Pg:=EnvK.of_ok noSeq_ok ⟨⟨io94_0,TT⟩,TT⟩
def f158_0g (α:Type)(a b:Int)(k1:Bool->Op α):Op α:=
 f94_0 α a 0 2
 (fun c=>cK c
 (f94_0 α b 0 1
 (fun d=>k1 d))
 (k1 false))
def f158_0:Tf161_0:=sld f158_0g
def Fn158_0 (v:Tf161_0)(α:Type)(k:RT α):I9 (Op α):=fun a b d e g h i j l=>v α a b (fun c=>ur161_0_0 k c)
def cm158_0:MCode:=(emb ac158)
theorem io158_0:InstOk Pg 158 nt158 ⟨pa72_0,Fn158_0 f158_0⟩:=inst_s eo158_0 followsTry (codeF_is Tryz.func158 (by kernel_rfl)) sh158 cm158_0 (emb_erase _) (emb_good ac158) fun _ _=>by kernel_rfl
abbrev nt9:Nat:=13
def sh9:SG:=[(5,[.sl]),(8,[.sl]),(12,[.sl,.sl,.int .i64,.int .i64])]
def tr9:TG:=[(0,⟨[1,2],true,[⟨true,2,0,30200,9⟩,⟨true,2,1,30201,5⟩],[]⟩),(1,⟨[1,2],true,[⟨true,2,0,30200,9⟩,⟨true,2,1,30201,5⟩],[]⟩),(2,⟨[2],true,[⟨true,2,0,30200,9⟩,⟨true,2,1,30201,5⟩],[]⟩)]
def ac9:ACode:=codeF Pg Tryz.f9 tr9 tl13
def pr9_0_0:PT (List RV):=pRs [pR true [rO 9,rO 5,rD (dI .i64),rD (dI .i64)]]
def ur9_0_0 {β:Type}(g:List RV->β):Rows->Rows->Int->Int->β:=pr9_0_0.unc g
def E9_0:EnvK:=EnvK.of [⟨10,nt10,[⟨pa10_0,Fn10_0 f10_0⟩]⟩] noSeq
theorem eo9_0:E9_0.Ok Pg:=EnvK.of_ok noSeq_ok ⟨⟨io10_0,TT⟩,TT⟩
abbrev Tf9_0:Type 1:=(α:Type)->Rows->Rows->(Rows->Rows->Op α)->Op α
def f9_0g (α:Type)(a b:Rows)(k1:Rows->Rows->Op α):Op α:=
 gK (apOk 9 72 ([]:Rows) a) (f10_0 α b
 (fun c=>k1 (([]:Rows)++a) c))
def f9_0:Tf9_0:=sld f9_0g
def Fn9_0 (v:Tf9_0)(α:Type)(k:RT α):Rows->Rows->Int->Int->Op α:=fun a b c d=>v α a b (fun e g=>ur9_0_0 k e g c d)
def cm9_0:MCode:=(emb ac9)
theorem io9_0:InstOk Pg 9 nt9 ⟨pa7_0,Fn9_0 f9_0⟩:=inst_s eo9_0 followsTry (codeF_is Tryz.func9 (by kernel_rfl)) sh9 cm9_0 (emb_erase _) (emb_good ac9) fun _ _=>by kernel_rfl
abbrev nt122:Nat:=44
def sh122:SG:=[(9,iS 4),(10,iS 4),(15,iS 2),(18,iS 2),(20,iS 2),(25,iS 8),(27,iS 2),(30,iS 2),(33,iS 2),(35,iS 2),(40,iS 8),(42,iS 2)]
def tr122:TG:=[tT 0 [1,2,4],tT 1 [1,2,4,6],tT 2 [2,4,6,13],tT 3 [2,4,6,7],tT 4 [2,4,6],tT 5 [4,5],tT 6 [2,4,6,8],tT 7 [2,4,6],tT 8 [4,5]]
def ac122:ACode:=codeF Pg Tryz.f122 tr122 tl13
def pr122_0_0:PT (List RV):=pRs [pR true [rD (dI .i64),rD (dI .i64),rD (dI .i64),rD (dI .i64),rD (dI .i64),rD (dI .i64),rD (dI .i64),rD (dI .i64)],pR false [rD dB]]
def ur122_0_0 {β:Type}(g:List RV->β):Int->Int->Int->Int->Int->Int->Int->Int->Bool->β:=pr122_0_0.unc g
def E122_0:EnvK:=EnvK.of [⟨162,nt162,[⟨pa161_0,Fn162_0 f162_0⟩]⟩,⟨161,nt161,[⟨pa161_0,Fn161_0 f161_0⟩]⟩] noSeq
theorem eo122_0:E122_0.Ok Pg:=EnvK.of_ok noSeq_ok ⟨⟨io162_0,TT⟩,⟨io161_0,TT⟩,TT⟩
abbrev Tf122_0:Type 1:=(α:Type)->Int->Int->Int->Int->Int->(I4 (Bool->Op α))->Op α
def f122_0g (α:Type)(a b c d e:Int)(k1:I4 (Bool->Op α)):Op α:=
 cK (e == 1)
 (f162_0 α a b
 (fun g h=>f161_0 α a b
 (fun i=>k1 g d h c i)))
 (f162_0 α c d
 (fun j l=>f161_0 α c d
 (fun m=>k1 b j a l m)))
def f122_0:Tf122_0:=sld f122_0g
def pa122_0:PT (List DV):=pA [pV true [(dI .i64),(dI .i64),(dI .i64),(dI .i64)],vI]
def Fn122_0 (v:Tf122_0)(α:Type)(k:RT α):I5 (Op α):=fun a b c d e=>v α a b c d e (fun g h i j l=>ur122_0_0 k a g c h i b j d l)
def cm122_0:MCode:=(emb ac122)
theorem io122_0:InstOk Pg 122 nt122 ⟨pa122_0,Fn122_0 f122_0⟩:=inst_s eo122_0 followsTry (codeF_is Tryz.func122 (by kernel_rfl)) sh122 cm122_0 (emb_erase _) (emb_good ac122) fun _ _=>by kernel_rfl
abbrev nt199:Nat:=32
def tr199:TG:=[tT 0 [0],tT 1 [3],tT 2 [3,4],tT 3 [4,5],tT 4 [4,6],tT 5 [6,23,24],tT 6 [6,23,24,25],tT 7 [6,23,24],tT 8 [6,23,24],tT 9 [2]]
def tl199:TG:=[tT 6 [6,23,24]]
def ac199:ACode:=codeF Pg Tryz.f199 tr199 tl199
def td199_15:OT:=tdC (MCode.sub [1,1,1,1,1,0,1,0] (emb ac199))
def p199_0_0:PT St:=pS [sI 6,sI 23,sI 24] []
def u199_0_0 {β:Type}(g:St->β):Int->Int->Int->β:=p199_0_0.unc g
def p199_0_1:PT St:=pS [sI 6,sI 23,sI 24,sY 25 dB] []
def u199_0_1 {β:Type}(g:St->β):Int->Int->Int->Bool->β:=p199_0_1.unc g
def E199_0:EnvK:=EnvK.of [⟨215,nt215,[⟨pa215_0,Fn215_0 f215_0⟩]⟩,⟨89,nt89,[⟨pa19_0,Fn89_0 f89_0⟩]⟩] noSeq
theorem eo199_0:E199_0.Ok Pg:=EnvK.of_ok noSeq_ok ⟨⟨io215_0,TT⟩,⟨io89_0,TT⟩,TT⟩
def c199_0_15:MCode:=MCode.sub [1,1,1,1,1,0,1,0,0] (emb ac199)
def S199_0_0 (α:Type)(c b a:Int)(kn:Int->Int->Op α)(k1:Int->Int->Bool->Op α):Op α:=
 cK (decide (a < c))
 (f89_0 α (w64 (b*b)) 1073741824
 (fun d=>kn d (w64 (a+1))))
 (k1 b a (decide (a < c)))
def R199_0_0 (α:Type)(a:Int)(k1:Int->Int->Bool->Op α):Nat->Int->Int->Op α
 | 0,_,_=>none
 | n+1,b,c=>S199_0_0 α a b c (R199_0_0 α a k1 n) k1
def L199_0_0g (α:Type)(a:Int)(k1:Int->Int->Bool->Op α)(b c:Int):Op α:=R199_0_0 α a k1 fuel b c
abbrev TL199_0_0:Type 1:=(α:Type)->Int->(Int->Int->Bool->Op α)->Int->Int->Op α
def L199_0_0:TL199_0_0:=sld L199_0_0g
def F199_0_0 (v:TL199_0_0)(α:Type)(K:KT α):Int->Int->Int->Op α:=fun b a c=>v α a (fun d e g=>u199_0_1 (K (.exit 0)) d a e g) b c
theorem r199_0_0 (α:Type)(K:KT α)(Kn:SK α)(a b c:Int):u199_0_0 (fun σ=>runM Pg E199_0 sh19 c199_0_15 (thenK (fun σ=>tidyK td199_15 σ Kn) K) σ) a b c=S199_0_0 α b a c (fun a c=>u199_0_0 Kn a b c) (fun d e g=>u199_0_1 (K (.exit 0)) d b e g):=by kernel_rfl
theorem t199_0_0 (α:Type)(K:KT α):∀ (n:Nat) (b a c:Int),R199_0_0 α a (fun d e g=>u199_0_1 (K (.exit 0)) d a e g) n b c=u199_0_0 (loopT (runM Pg E199_0 sh19 c199_0_15) td199_15 K n) b a c:=by
 intro n
 induction n with
 | zero=>intros;rfl
 | succ n ih=>intro b a c;exact (congrArg (fun kn=>S199_0_0 α a b c kn (fun d e g=>u199_0_1 (K (.exit 0)) d a e g)) (funext fun b=>funext fun c=>ih b a c)).trans (r199_0_0 α K (loopT (runM Pg E199_0 sh19 c199_0_15) td199_15 K n) b a c).symm
theorem m199_0_0:∀ (α:Type) (K:KT α),F199_0_0 L199_0_0 α K=p199_0_0.unc fun σ=>loopT (runM Pg E199_0 sh19 c199_0_15) td199_15 K fuel σ:=sld0 (fun α K=>funext fun a=>funext fun b=>funext fun c=>t199_0_0 α K fuel a b c)
def f199_0g (α:Type)(b:Int)(k1:Int->Op α):Op α:=
 f215_0 α (w64 (Int.tdiv (w64 ((w64 (256*b))*62831853)) 10000000))
 (fun a=>gK (decide (0<=a)) (f89_0 α (w64 ((Int.fdiv (w64 (Int.tdiv (w64 ((w64 (256*b))*62831853)) 10000000)) (2 ^ (min (Int.toNat a) 64)))*(Int.fdiv (w64 (Int.tdiv (w64 ((w64 (256*b))*62831853)) 10000000)) (2 ^ (min (Int.toNat a) 64))))) 2147483648
 (fun c=>L199_0_0 α a
 (fun d e g=>k1 d) (w64 ((w64 (1073741824 - (Int.fdiv (w64 (Int.tdiv (w64 ((w64 (256*b))*62831853)) 10000000)) (2 ^ (min (Int.toNat a) 64)))))+c)) 0)))
def f199_0:Tf215_0:=sld f199_0g
def Fn199_0 (v:Tf215_0)(α:Type)(k:RT α):Int->Op α:=fun a=>v α a (fun b=>ur19_0_0 k b)
def cm199_0:MCode:=(MCode.put (.m [⟨p199_0_0,F199_0_0 L199_0_0⟩]) [1,1,1,1,1,0,1,0] (emb ac199))
theorem io199_0:InstOk Pg 199 nt199 ⟨pa215_0,Fn199_0 f199_0⟩:=inst_s eo199_0 followsTry (codeF_is Tryz.func199 (by kernel_rfl)) sh19 cm199_0 ((put_erase _ _).trans (emb_erase _)) (put_loop (td:=td199_15) (by kernel_rfl) (emb_good ac199) ⟨m199_0_0,TT⟩) fun _ _=>by kernel_rfl
abbrev nt198:Nat:=40
def tr198:TG:=[tT 0 [0],tT 1 [3],tT 2 [3,4],tT 3 [4,5],tT 4 [4,6],tT 5 [6,31,32],tT 6 [6,31,32,33],tT 7 [6,31,32],tT 8 [6,31,32],tT 9 [2]]
def tl198:TG:=[tT 6 [6,31,32]]
def ac198:ACode:=codeF Pg Tryz.f198 tr198 tl198
def td198_15:OT:=tdC (MCode.sub [1,1,1,1,1,0,1,0] (emb ac198))
def p198_0_0:PT St:=pS [sI 6,sI 31,sI 32] []
def u198_0_0 {β:Type}(g:St->β):Int->Int->Int->β:=p198_0_0.unc g
def p198_0_1:PT St:=pS [sI 6,sI 31,sI 32,sY 33 dB] []
def u198_0_1 {β:Type}(g:St->β):Int->Int->Int->Bool->β:=p198_0_1.unc g
def E198_0:EnvK:=EnvK.of [⟨89,nt89,[⟨pa19_0,Fn89_0 f89_0⟩]⟩,⟨215,nt215,[⟨pa215_0,Fn215_0 f215_0⟩]⟩] noSeq
theorem eo198_0:E198_0.Ok Pg:=EnvK.of_ok noSeq_ok ⟨⟨io89_0,TT⟩,⟨io215_0,TT⟩,TT⟩
def c198_0_15:MCode:=MCode.sub [1,1,1,1,1,0,1,0,0] (emb ac198)
def S198_0_0 (α:Type)(c b a:Int)(kn:Int->Int->Op α)(k1:Int->Int->Bool->Op α):Op α:=
 cK (decide (a < c))
 (kn (w64 (Int.tdiv (w64 (b*b)) 1073741824)) (w64 (a+1)))
 (k1 b a (decide (a < c)))
def R198_0_0 (α:Type)(a:Int)(k1:Int->Int->Bool->Op α):Nat->Int->Int->Op α
 | 0,_,_=>none
 | n+1,b,c=>S198_0_0 α a b c (R198_0_0 α a k1 n) k1
def L198_0_0g (α:Type)(a:Int)(k1:Int->Int->Bool->Op α)(b c:Int):Op α:=R198_0_0 α a k1 fuel b c
def L198_0_0:TL199_0_0:=sld L198_0_0g
def F198_0_0 (v:TL199_0_0)(α:Type)(K:KT α):Int->Int->Int->Op α:=fun b a c=>v α a (fun d e g=>u198_0_1 (K (.exit 0)) d a e g) b c
theorem r198_0_0 (α:Type)(K:KT α)(Kn:SK α)(a b c:Int):u198_0_0 (fun σ=>runM Pg E198_0 sh19 c198_0_15 (thenK (fun σ=>tidyK td198_15 σ Kn) K) σ) a b c=S198_0_0 α b a c (fun a c=>u198_0_0 Kn a b c) (fun d e g=>u198_0_1 (K (.exit 0)) d b e g):=by kernel_rfl
theorem t198_0_0 (α:Type)(K:KT α):∀ (n:Nat) (b a c:Int),R198_0_0 α a (fun d e g=>u198_0_1 (K (.exit 0)) d a e g) n b c=u198_0_0 (loopT (runM Pg E198_0 sh19 c198_0_15) td198_15 K n) b a c:=by
 intro n
 induction n with
 | zero=>intros;rfl
 | succ n ih=>intro b a c;exact (congrArg (fun kn=>S198_0_0 α a b c kn (fun d e g=>u198_0_1 (K (.exit 0)) d a e g)) (funext fun b=>funext fun c=>ih b a c)).trans (r198_0_0 α K (loopT (runM Pg E198_0 sh19 c198_0_15) td198_15 K n) b a c).symm
theorem m198_0_0:∀ (α:Type) (K:KT α),F198_0_0 L198_0_0 α K=p198_0_0.unc fun σ=>loopT (runM Pg E198_0 sh19 c198_0_15) td198_15 K fuel σ:=sld0 (fun α K=>funext fun a=>funext fun b=>funext fun c=>t198_0_0 α K fuel a b c)
def f198_0g (α:Type)(d:Int)(k1:Int->Op α):Op α:=
 f89_0 α (w64 ((w64 (256*d))*62831854)) 10000000
 (fun c=>f215_0 α c
 (fun b=>gK (decide (0<=b)) (f89_0 α c (w64 (1*2 ^ (min (Int.toNat b) 64)))
 (fun a=>f89_0 α (w64 ((w64 (a*a))*a)) 6917529027641081856
 (fun e=>L198_0_0 α b
 (fun g h i=>k1 g) (w64 ((w64 ((w64 (1073741824 - a))+(w64 (Int.tdiv (w64 (a*a)) 2147483648)))) - e)) 0)))))
def f198_0:Tf215_0:=sld f198_0g
def Fn198_0 (v:Tf215_0)(α:Type)(k:RT α):Int->Op α:=fun a=>v α a (fun b=>ur19_0_0 k b)
def cm198_0:MCode:=(MCode.put (.m [⟨p198_0_0,F198_0_0 L198_0_0⟩]) [1,1,1,1,1,0,1,0] (emb ac198))
theorem io198_0:InstOk Pg 198 nt198 ⟨pa215_0,Fn198_0 f198_0⟩:=inst_s eo198_0 followsTry (codeF_is Tryz.func198 (by kernel_rfl)) sh19 cm198_0 ((put_erase _ _).trans (emb_erase _)) (put_loop (td:=td198_15) (by kernel_rfl) (emb_good ac198) ⟨m198_0_0,TT⟩) fun _ _=>by kernel_rfl
abbrev nt222:Nat:=24
def sh222:SG:=[(7,iS 2),(8,iS 2),(10,iS 2),(14,iT),(19,iT)]
def tr222:TG:=[tT 0 [2,3,4],tT 1 [4,5],tT 2 [4,5,6],tT 3 [4]]
def ac222:ACode:=codeF Pg Tryz.f222 tr222 tl13
def E222_0:EnvK:=EnvK.of [⟨168,nt168,[⟨pa42_0,Fn168_0 f168_0⟩]⟩,⟨175,nt175,[⟨pa161_0,Fn175_0 f175_0⟩]⟩,⟨141,nt141,[⟨pa215_0,Fn141_0 f141_0⟩]⟩] noSeq
theorem eo222_0:E222_0.Ok Pg:=EnvK.of_ok noSeq_ok ⟨⟨io168_0,TT⟩,⟨io175_0,TT⟩,⟨io141_0,TT⟩,TT⟩
def f222_0g (α:Type)(d e g h:Int)(k1:Int->Int->Op α):Op α:=
 f168_0 α d e g h
 (fun b c=>f175_0 α b c
 (fun i=>f141_0 α i
 (fun a=>gK (a != 0) (gK (a != 0) (k1 (w64 (Int.tdiv (w64 (b*67108864)) a)) (w64 (Int.tdiv (w64 (c*67108864)) a)))))))
def f222_0:Tf42_0:=sld f222_0g
def Fn222_0 (v:Tf42_0)(α:Type)(k:RT α):I4 (Op α):=fun a b c d=>v α a b c d (fun e g=>ur13_0_0 k e g)
def cm222_0:MCode:=(emb ac222)
theorem io222_0:InstOk Pg 222 nt222 ⟨pa42_0,Fn222_0 f222_0⟩:=inst_s eo222_0 followsTry (codeF_is Tryz.func222 (by kernel_rfl)) sh222 cm222_0 (emb_erase _) (emb_good ac222) fun _ _=>by kernel_rfl
abbrev nt185:Nat:=135
def tr185:TG:=[tT 0 [0,1,2],tT 1 [0,1,2,20],tT 2 [0,1,2],tT 3 [0,1,2,24],tT 4 [0,1,2],tT 5 [0,1,2,27],tT 6 [6,7],tT 7 [0,1,2,8],tT 8 [0,1,2,8],tT 9 [0,1,2,8,9],tT 10 [0,1,2,8,9,10],tT 11 [1,2,8,9,10,11],tT 12 [2,8,9,10,11,12],tT 13 [2,8,9,10,11,12,13],tT 14 [2,8,9,10,11,13,14],tT 15 [2,8,9,10,11,13,14,15],tT 16 [2,8,9,10,11,13,14,15,16],tT 17 [2,8,9,10,11,13,14,15,16,78],tT 18 [2,8,9,10,11,13,14,15,16],tT 19 [2,8,9,10,11,13,14,15,16],tT 20 [2,8,9,10,11,13,14,15,16,85],tT 21 [2,8,9,10,14,15,17],tT 22 [2,8,9,10,14,15,17,18],tT 23 [2,8,9,10,14,15,16,17,18],tT 24 [2,8,9,10,14,15,16,17,18,113],tT 25 [2,8,9,10,14,15,16,17,18],tT 26 [2,8,9,10,14,15,16,17,18],tT 27 [2,8,9,10,14,15,16,17,18,120],tT 28 [6,7]]
def tl185:TG:=[tT 17 [2,8,9,10,11,13,14,15,16],tT 24 [2,8,9,10,14,15,16,17,18]]
def ac185:ACode:=codeF Pg Tryz.f185 tr185 tl185
def td185_41:OT:=tdC (MCode.sub [1,1,1,1,1,1,1,1,1,1,1,1,1,1,0,0] (emb ac185))
def td185_62:OT:=tdC (MCode.sub [1,1,1,1,1,1,1,1,1,1,1,1,1,1,1,1,1,1,0,0] (emb ac185))
def p185_0_0:PT St:=pS [sY 2 (dI .u64),sY 8 (dI .u64),sY 9 (dI .u64),sY 10 (dI .u64),sY 11 (dI .u64),sY 13 (dI .u64),sY 14 (dI .u64),sY 15 (dI .u64),sY 16 (dI .u64)] []
def u185_0_0 {β:Type}(g:St->β):I9 β:=p185_0_0.unc g
def p185_0_1:PT St:=pS [sY 2 (dI .u64),sY 8 (dI .u64),sY 9 (dI .u64),sY 10 (dI .u64),sY 11 (dI .u64),sY 13 (dI .u64),sY 14 (dI .u64),sY 15 (dI .u64),sY 16 (dI .u64),sY 78 dB] []
def u185_0_1 {β:Type}(g:St->β):Int->Int->Int->Int->Int->Int->Int->Int->Int->Bool->β:=p185_0_1.unc g
def p185_0_2:PT St:=pS [sY 2 (dI .u64),sY 8 (dI .u64),sY 9 (dI .u64),sY 10 (dI .u64),sY 11 (dI .u64),sY 13 (dI .u64),sY 14 (dI .u64),sY 15 (dI .u64),sY 16 (dI .u64),sY 85 dB] []
def u185_0_2 {β:Type}(g:St->β):Int->Int->Int->Int->Int->Int->Int->Int->Int->Bool->β:=p185_0_2.unc g
def p185_0_3:PT St:=pS [sY 2 (dI .u64),sY 8 (dI .u64),sY 9 (dI .u64),sY 10 (dI .u64),sY 14 (dI .u64),sY 15 (dI .u64),sY 16 (dI .u64),sY 17 (dI .u64),sY 18 (dI .u64)] []
def u185_0_3 {β:Type}(g:St->β):I9 β:=p185_0_3.unc g
def p185_0_4:PT St:=pS [sY 2 (dI .u64),sY 8 (dI .u64),sY 9 (dI .u64),sY 10 (dI .u64),sY 14 (dI .u64),sY 15 (dI .u64),sY 16 (dI .u64),sY 17 (dI .u64),sY 18 (dI .u64),sY 113 dB] []
def u185_0_4 {β:Type}(g:St->β):Int->Int->Int->Int->Int->Int->Int->Int->Int->Bool->β:=p185_0_4.unc g
def p185_0_5:PT St:=pS [sY 2 (dI .u64),sY 8 (dI .u64),sY 9 (dI .u64),sY 10 (dI .u64),sY 14 (dI .u64),sY 15 (dI .u64),sY 16 (dI .u64),sY 17 (dI .u64),sY 18 (dI .u64),sY 120 dB] []
def u185_0_5 {β:Type}(g:St->β):Int->Int->Int->Int->Int->Int->Int->Int->Int->Bool->β:=p185_0_5.unc g
def E185_0:EnvK:=EnvK.of [⟨203,nt203,[⟨pa216_0,Fn203_0 f203_0⟩]⟩] noSeq
theorem eo185_0:E185_0.Ok Pg:=EnvK.of_ok noSeq_ok ⟨⟨io203_0,TT⟩,TT⟩
def c185_0_63:MCode:=MCode.sub [1,1,1,1,1,1,1,1,1,1,1,1,1,1,1,1,1,1,0,0,0,0] (emb ac185)
abbrev TJ185_0_3:Type 1:=(α:Type)->Int->Int->Int->Int->(Bool->Op α)->(Bool->Op α)->Op α
def J185_0_3g (α:Type)(b c d a:Int)(k1:Bool->Op α)(k2:Bool->Op α):Op α:=
 cK (decide (4294967296<=a))
 (k1 true)
 (cK (decide ((IntKind.wrap .u64 ((IntKind.wrap .u64 (4294967296*d))+c)) < (IntKind.wrap .u64 (a*b))))
 (k1 (decide ((IntKind.wrap .u64 ((IntKind.wrap .u64 (4294967296*d))+c)) < (IntKind.wrap .u64 (a*b)))))
 (k2 (decide ((IntKind.wrap .u64 ((IntKind.wrap .u64 (4294967296*d))+c)) < (IntKind.wrap .u64 (a*b))))))
def J185_0_3:TJ185_0_3:=sld J185_0_3g
def F185_0_3 (v:TJ185_0_3)(α:Type)(K:KT α):I9 (Op α):=fun g h i a b j c l d=>v α a b c d (fun e=>u185_0_4 (K .normal) g h i a b j c l d e) (fun e=>u185_0_4 (K (.exit 2)) g h i a b j c l d e)
theorem m185_0_3:∀ (α:Type) (K:KT α),F185_0_3 J185_0_3 α K=p185_0_3.unc fun σ=>runM Pg E185_0 sh19 c185_0_63 K σ:=sld0 (fun α K=>by kernel_rfl)
def c185_0_62:MCode:=MCode.sub [1,1,1,1,1,1,1,1,1,1,1,1,1,1,1,1,1,1,0,0,0] (MCode.put (.m [⟨p185_0_3,F185_0_3 J185_0_3⟩]) [1,1,1,1,1,1,1,1,1,1,1,1,1,1,1,1,1,1,0,0,0] (emb ac185))
def S185_0_4 (α:Type)(b d e a c:Int)(kn:Int->Int->Op α)(k1:Int->Int->Bool->Op α)(k2:Int->Int->Bool->Op α):Op α:=
 J185_0_3 α d e a c
 (fun h=>cK (decide (4294967296<=(IntKind.wrap .u64 (a+b))))
 (k1 (IntKind.wrap .u64 (a+b)) (IntKind.wrap .u64 (c - 1)) (decide (4294967296<=(IntKind.wrap .u64 (a+b)))))
 (kn (IntKind.wrap .u64 (a+b)) (IntKind.wrap .u64 (c - 1))))
 (fun g=>k2 a c g)
def R185_0_4 (α:Type)(a b c:Int)(k1:Int->Int->Bool->Op α)(k2:Int->Int->Bool->Op α):Nat->Int->Int->Op α
 | 0,_,_=>none
 | n+1,d,e=>S185_0_4 α a b c d e (R185_0_4 α a b c k1 k2 n) k1 k2
def L185_0_4g (α:Type)(a b c:Int)(k1:Int->Int->Bool->Op α)(k2:Int->Int->Bool->Op α)(d e:Int):Op α:=R185_0_4 α a b c k1 k2 fuel d e
abbrev TL185_0_4:Type 1:=(α:Type)->Int->Int->Int->(Int->Int->Bool->Op α)->(Int->Int->Bool->Op α)->Int->Int->Op α
def L185_0_4:TL185_0_4:=sld L185_0_4g
def F185_0_4 (v:TL185_0_4)(α:Type)(K:KT α):I9 (Op α):=fun h i a b c j m l o=>v α a b c (fun d e g=>u185_0_5 (K (.exit 2)) h i a b c j d l e g) (fun d e g=>u185_0_4 (K (.exit 2)) h i a b c j d l e g) m o
theorem r185_0_4 (α:Type)(K:KT α)(Kn:SK α)(d e a b c g h i j:Int):u185_0_3 (fun σ=>runM Pg E185_0 sh19 c185_0_62 (thenK (fun σ=>tidyK td185_62 σ Kn) K) σ) d e a b c g h i j=S185_0_4 α a b c h j (fun h j=>u185_0_3 Kn d e a b c g h i j) (fun l m o=>u185_0_5 (K (.exit 2)) d e a b c g l i m o) (fun l m o=>u185_0_4 (K (.exit 2)) d e a b c g l i m o):=by kernel_rfl
theorem t185_0_4 (α:Type)(K:KT α):∀ (n:Nat) (d e a b c g i h j:Int),R185_0_4 α a b c (fun l m o=>u185_0_5 (K (.exit 2)) d e a b c g l h m o) (fun l m o=>u185_0_4 (K (.exit 2)) d e a b c g l h m o) n i j=u185_0_3 (loopT (runM Pg E185_0 sh19 c185_0_62) td185_62 K n) d e a b c g i h j:=by
 intro n
 induction n with
 | zero=>intros;rfl
 | succ n ih=>intro d e a b c g i h j;exact (congrArg (fun kn=>S185_0_4 α a b c i j kn (fun l m o=>u185_0_5 (K (.exit 2)) d e a b c g l h m o) (fun l m o=>u185_0_4 (K (.exit 2)) d e a b c g l h m o)) (funext fun i=>funext fun j=>ih d e a b c g i h j)).trans (r185_0_4 α K (loopT (runM Pg E185_0 sh19 c185_0_62) td185_62 K n) d e a b c g i h j).symm
theorem m185_0_4:∀ (α:Type) (K:KT α),F185_0_4 L185_0_4 α K=p185_0_3.unc fun σ=>loopT (runM Pg E185_0 sh19 c185_0_62) td185_62 K fuel σ:=sld0 (fun α K=>funext fun a=>funext fun b=>funext fun c=>funext fun d=>funext fun e=>funext fun g=>funext fun h=>funext fun i=>funext fun j=>t185_0_4 α K fuel a b c d e g h i j)
def c185_0_60:MCode:=MCode.sub [1,1,1,1,1,1,1,1,1,1,1,1,1,1,1,1,1,1,0] (MCode.put (.m [⟨p185_0_3,F185_0_4 L185_0_4⟩]) [1,1,1,1,1,1,1,1,1,1,1,1,1,1,1,1,1,1,0,0] (MCode.put (.m [⟨p185_0_3,F185_0_3 J185_0_3⟩]) [1,1,1,1,1,1,1,1,1,1,1,1,1,1,1,1,1,1,0,0,0] (emb ac185)))
abbrev TJ185_0_5:Type 1:=(α:Type)->Int->Int->Int->Int->Int->(Int->Int->Bool->Op α)->(Int->Int->Bool->Op α)->Op α
def J185_0_5g (α:Type)(a b c d e:Int)(k1:Int->Int->Bool->Op α)(k2:Int->Int->Bool->Op α):Op α:=
 L185_0_4 α a b c
 (fun g h i=>k1 g h i)
 (fun j l m=>k2 j l m) d e
def J185_0_5:TJ185_0_5:=sld J185_0_5g
def F185_0_5 (v:TJ185_0_5)(α:Type)(K:KT α):I9 (Op α):=fun h i a b c j m l o=>v α a b c m o (fun d e g=>u185_0_5 (K .normal) h i a b c j d l e g) (fun d e g=>u185_0_4 (K .normal) h i a b c j d l e g)
theorem m185_0_5:∀ (α:Type) (K:KT α),F185_0_5 J185_0_5 α K=p185_0_3.unc fun σ=>runM Pg E185_0 sh19 c185_0_60 K σ:=sld0 (fun α K=>by kernel_rfl)
def c185_0_42:MCode:=MCode.sub [1,1,1,1,1,1,1,1,1,1,1,1,1,1,0,0,0,0] (emb ac185)
def J185_0_0g (α:Type)(b c a d:Int)(k1:Bool->Op α)(k2:Bool->Op α):Op α:=
 cK (decide (4294967296<=a))
 (k1 true)
 (cK (decide ((IntKind.wrap .u64 ((IntKind.wrap .u64 (4294967296*d))+c)) < (IntKind.wrap .u64 (a*b))))
 (k1 (decide ((IntKind.wrap .u64 ((IntKind.wrap .u64 (4294967296*d))+c)) < (IntKind.wrap .u64 (a*b)))))
 (k2 (decide ((IntKind.wrap .u64 ((IntKind.wrap .u64 (4294967296*d))+c)) < (IntKind.wrap .u64 (a*b))))))
def J185_0_0:TJ185_0_3:=sld J185_0_0g
def F185_0_0 (v:TJ185_0_3)(α:Type)(K:KT α):I9 (Op α):=fun g h i a j b l c d=>v α a b c d (fun e=>u185_0_1 (K .normal) g h i a j b l c d e) (fun e=>u185_0_1 (K (.exit 0)) g h i a j b l c d e)
theorem m185_0_0:∀ (α:Type) (K:KT α),F185_0_0 J185_0_0 α K=p185_0_0.unc fun σ=>runM Pg E185_0 sh19 c185_0_42 K σ:=sld0 (fun α K=>by kernel_rfl)
def c185_0_41:MCode:=MCode.sub [1,1,1,1,1,1,1,1,1,1,1,1,1,1,0,0,0] (MCode.put (.m [⟨p185_0_0,F185_0_0 J185_0_0⟩]) [1,1,1,1,1,1,1,1,1,1,1,1,1,1,0,0,0] (emb ac185))
def S185_0_1 (α:Type)(b d e c a:Int)(kn:Int->Int->Op α)(k1:Int->Int->Bool->Op α)(k2:Int->Int->Bool->Op α):Op α:=
 J185_0_0 α d e c a
 (fun h=>cK (decide (4294967296<=(IntKind.wrap .u64 (a+b))))
 (k1 (IntKind.wrap .u64 (c - 1)) (IntKind.wrap .u64 (a+b)) (decide (4294967296<=(IntKind.wrap .u64 (a+b)))))
 (kn (IntKind.wrap .u64 (c - 1)) (IntKind.wrap .u64 (a+b))))
 (fun g=>k2 c a g)
def R185_0_1 (α:Type)(a b c:Int)(k1:Int->Int->Bool->Op α)(k2:Int->Int->Bool->Op α):Nat->Int->Int->Op α
 | 0,_,_=>none
 | n+1,d,e=>S185_0_1 α a b c d e (R185_0_1 α a b c k1 k2 n) k1 k2
def L185_0_1g (α:Type)(a b c:Int)(k1:Int->Int->Bool->Op α)(k2:Int->Int->Bool->Op α)(d e:Int):Op α:=R185_0_1 α a b c k1 k2 fuel d e
def L185_0_1:TL185_0_4:=sld L185_0_1g
def F185_0_1 (v:TL185_0_4)(α:Type)(K:KT α):I9 (Op α):=fun h i a b j c l m o=>v α a b c (fun d e g=>u185_0_2 (K (.exit 0)) h i a b j c l d e g) (fun d e g=>u185_0_1 (K (.exit 0)) h i a b j c l d e g) m o
theorem r185_0_1 (α:Type)(K:KT α)(Kn:SK α)(d e a b g c h i j:Int):u185_0_0 (fun σ=>runM Pg E185_0 sh19 c185_0_41 (thenK (fun σ=>tidyK td185_41 σ Kn) K) σ) d e a b g c h i j=S185_0_1 α a b c i j (fun i j=>u185_0_0 Kn d e a b g c h i j) (fun l m o=>u185_0_2 (K (.exit 0)) d e a b g c h l m o) (fun l m o=>u185_0_1 (K (.exit 0)) d e a b g c h l m o):=by kernel_rfl
theorem t185_0_1 (α:Type)(K:KT α):∀ (n:Nat) (d e a b g c h i j:Int),R185_0_1 α a b c (fun l m o=>u185_0_2 (K (.exit 0)) d e a b g c h l m o) (fun l m o=>u185_0_1 (K (.exit 0)) d e a b g c h l m o) n i j=u185_0_0 (loopT (runM Pg E185_0 sh19 c185_0_41) td185_41 K n) d e a b g c h i j:=by
 intro n
 induction n with
 | zero=>intros;rfl
 | succ n ih=>intro d e a b g c h i j;exact (congrArg (fun kn=>S185_0_1 α a b c i j kn (fun l m o=>u185_0_2 (K (.exit 0)) d e a b g c h l m o) (fun l m o=>u185_0_1 (K (.exit 0)) d e a b g c h l m o)) (funext fun i=>funext fun j=>ih d e a b g c h i j)).trans (r185_0_1 α K (loopT (runM Pg E185_0 sh19 c185_0_41) td185_41 K n) d e a b g c h i j).symm
theorem m185_0_1:∀ (α:Type) (K:KT α),F185_0_1 L185_0_1 α K=p185_0_0.unc fun σ=>loopT (runM Pg E185_0 sh19 c185_0_41) td185_41 K fuel σ:=sld0 (fun α K=>funext fun a=>funext fun b=>funext fun c=>funext fun d=>funext fun e=>funext fun g=>funext fun h=>funext fun i=>funext fun j=>t185_0_1 α K fuel a b c d e g h i j)
def c185_0_39:MCode:=MCode.sub [1,1,1,1,1,1,1,1,1,1,1,1,1,1,0] (MCode.put (.m [⟨p185_0_0,F185_0_1 L185_0_1⟩]) [1,1,1,1,1,1,1,1,1,1,1,1,1,1,0,0] (MCode.put (.m [⟨p185_0_0,F185_0_0 J185_0_0⟩]) [1,1,1,1,1,1,1,1,1,1,1,1,1,1,0,0,0] (emb ac185)))
def J185_0_2g (α:Type)(a b c d e:Int)(k1:Int->Int->Bool->Op α)(k2:Int->Int->Bool->Op α):Op α:=
 L185_0_1 α a b c
 (fun g h i=>k1 g h i)
 (fun j l m=>k2 j l m) d e
def J185_0_2:TJ185_0_5:=sld J185_0_2g
def F185_0_2 (v:TJ185_0_5)(α:Type)(K:KT α):I9 (Op α):=fun h i a b j c l m o=>v α a b c m o (fun d e g=>u185_0_2 (K .normal) h i a b j c l d e g) (fun d e g=>u185_0_1 (K .normal) h i a b j c l d e g)
theorem m185_0_2:∀ (α:Type) (K:KT α),F185_0_2 J185_0_2 α K=p185_0_0.unc fun σ=>runM Pg E185_0 sh19 c185_0_39 K σ:=sld0 (fun α K=>by kernel_rfl)
def f185_0g (α:Type)(d c b:Int)(k1:Int->Int->Op α):Op α:=
 cK (b == 0)
 (none)
 (cK (decide (b<=d))
 (none)
 (cK (d == 0)
 (gK (b != 0) (gK (b != 0) (k1 (IntKind.wrap .u64 (Int.tdiv c b)) (Int.tmod c b))))
 (f203_0 α b
 (fun a=>gK (decide (0<=(IntKind.wrap .u64 (a)))) (gK (decide (0<=(IntKind.wrap .u64 (a)))) (gK (decide (0<=(IntKind.wrap .u64 (64 - (IntKind.wrap .u64 (a)))))) (gK (decide (0<=(IntKind.wrap .u64 (a)))) (gK ((Int.fdiv (IntKind.wrap .u64 (b*2 ^ (min (Int.toNat (IntKind.wrap .u64 (a))) 64))) (2 ^ 32)) != 0) (J185_0_2 α (Int.fdiv (IntKind.wrap .u64 (b*2 ^ (min (Int.toNat (IntKind.wrap .u64 (a))) 64))) (2 ^ 32)) (iAnd .u64 (IntKind.wrap .u64 (b*2 ^ (min (Int.toNat (IntKind.wrap .u64 (a))) 64))) 4294967295) (Int.fdiv (IntKind.wrap .u64 (c*2 ^ (min (Int.toNat (IntKind.wrap .u64 (a))) 64))) (2 ^ 32)) (IntKind.wrap .u64 (Int.tdiv (iOr .u64 (IntKind.wrap .u64 (d*2 ^ (min (Int.toNat (IntKind.wrap .u64 (a))) 64))) (Int.fdiv c (2 ^ (min (Int.toNat (IntKind.wrap .u64 (64 - (IntKind.wrap .u64 (a))))) 64)))) (Int.fdiv (IntKind.wrap .u64 (b*2 ^ (min (Int.toNat (IntKind.wrap .u64 (a))) 64))) (2 ^ 32)))) (IntKind.wrap .u64 ((iOr .u64 (IntKind.wrap .u64 (d*2 ^ (min (Int.toNat (IntKind.wrap .u64 (a))) 64))) (Int.fdiv c (2 ^ (min (Int.toNat (IntKind.wrap .u64 (64 - (IntKind.wrap .u64 (a))))) 64)))) - (IntKind.wrap .u64 ((IntKind.wrap .u64 (Int.tdiv (iOr .u64 (IntKind.wrap .u64 (d*2 ^ (min (Int.toNat (IntKind.wrap .u64 (a))) 64))) (Int.fdiv c (2 ^ (min (Int.toNat (IntKind.wrap .u64 (64 - (IntKind.wrap .u64 (a))))) 64)))) (Int.fdiv (IntKind.wrap .u64 (b*2 ^ (min (Int.toNat (IntKind.wrap .u64 (a))) 64))) (2 ^ 32))))*(Int.fdiv (IntKind.wrap .u64 (b*2 ^ (min (Int.toNat (IntKind.wrap .u64 (a))) 64))) (2 ^ 32))))))
 (fun e m o=>gK ((Int.fdiv (IntKind.wrap .u64 (b*2 ^ (min (Int.toNat (IntKind.wrap .u64 (a))) 64))) (2 ^ 32)) != 0) (J185_0_5 α (Int.fdiv (IntKind.wrap .u64 (b*2 ^ (min (Int.toNat (IntKind.wrap .u64 (a))) 64))) (2 ^ 32)) (iAnd .u64 (IntKind.wrap .u64 (b*2 ^ (min (Int.toNat (IntKind.wrap .u64 (a))) 64))) 4294967295) (iAnd .u64 (IntKind.wrap .u64 (c*2 ^ (min (Int.toNat (IntKind.wrap .u64 (a))) 64))) 4294967295) (IntKind.wrap .u64 ((IntKind.wrap .u64 ((IntKind.wrap .u64 ((IntKind.wrap .u64 ((iOr .u64 (IntKind.wrap .u64 (d*2 ^ (min (Int.toNat (IntKind.wrap .u64 (a))) 64))) (Int.fdiv c (2 ^ (min (Int.toNat (IntKind.wrap .u64 (64 - (IntKind.wrap .u64 (a))))) 64))))*4294967296))+(Int.fdiv (IntKind.wrap .u64 (c*2 ^ (min (Int.toNat (IntKind.wrap .u64 (a))) 64))) (2 ^ 32)))) - (IntKind.wrap .u64 (e*(IntKind.wrap .u64 (b*2 ^ (min (Int.toNat (IntKind.wrap .u64 (a))) 64))))))) - (IntKind.wrap .u64 ((IntKind.wrap .u64 (Int.tdiv (IntKind.wrap .u64 ((IntKind.wrap .u64 ((IntKind.wrap .u64 ((iOr .u64 (IntKind.wrap .u64 (d*2 ^ (min (Int.toNat (IntKind.wrap .u64 (a))) 64))) (Int.fdiv c (2 ^ (min (Int.toNat (IntKind.wrap .u64 (64 - (IntKind.wrap .u64 (a))))) 64))))*4294967296))+(Int.fdiv (IntKind.wrap .u64 (c*2 ^ (min (Int.toNat (IntKind.wrap .u64 (a))) 64))) (2 ^ 32)))) - (IntKind.wrap .u64 (e*(IntKind.wrap .u64 (b*2 ^ (min (Int.toNat (IntKind.wrap .u64 (a))) 64))))))) (Int.fdiv (IntKind.wrap .u64 (b*2 ^ (min (Int.toNat (IntKind.wrap .u64 (a))) 64))) (2 ^ 32))))*(Int.fdiv (IntKind.wrap .u64 (b*2 ^ (min (Int.toNat (IntKind.wrap .u64 (a))) 64))) (2 ^ 32)))))) (IntKind.wrap .u64 (Int.tdiv (IntKind.wrap .u64 ((IntKind.wrap .u64 ((IntKind.wrap .u64 ((iOr .u64 (IntKind.wrap .u64 (d*2 ^ (min (Int.toNat (IntKind.wrap .u64 (a))) 64))) (Int.fdiv c (2 ^ (min (Int.toNat (IntKind.wrap .u64 (64 - (IntKind.wrap .u64 (a))))) 64))))*4294967296))+(Int.fdiv (IntKind.wrap .u64 (c*2 ^ (min (Int.toNat (IntKind.wrap .u64 (a))) 64))) (2 ^ 32)))) - (IntKind.wrap .u64 (e*(IntKind.wrap .u64 (b*2 ^ (min (Int.toNat (IntKind.wrap .u64 (a))) 64))))))) (Int.fdiv (IntKind.wrap .u64 (b*2 ^ (min (Int.toNat (IntKind.wrap .u64 (a))) 64))) (2 ^ 32))))
 (fun p h q=>gK (decide (0<=(IntKind.wrap .u64 (a)))) (k1 (IntKind.wrap .u64 ((IntKind.wrap .u64 (e*4294967296))+h)) (Int.fdiv (IntKind.wrap .u64 ((IntKind.wrap .u64 ((IntKind.wrap .u64 ((IntKind.wrap .u64 ((IntKind.wrap .u64 ((IntKind.wrap .u64 ((iOr .u64 (IntKind.wrap .u64 (d*2 ^ (min (Int.toNat (IntKind.wrap .u64 (a))) 64))) (Int.fdiv c (2 ^ (min (Int.toNat (IntKind.wrap .u64 (64 - (IntKind.wrap .u64 (a))))) 64))))*4294967296))+(Int.fdiv (IntKind.wrap .u64 (c*2 ^ (min (Int.toNat (IntKind.wrap .u64 (a))) 64))) (2 ^ 32)))) - (IntKind.wrap .u64 (e*(IntKind.wrap .u64 (b*2 ^ (min (Int.toNat (IntKind.wrap .u64 (a))) 64)))))))*4294967296))+(iAnd .u64 (IntKind.wrap .u64 (c*2 ^ (min (Int.toNat (IntKind.wrap .u64 (a))) 64))) 4294967295))) - (IntKind.wrap .u64 (h*(IntKind.wrap .u64 (b*2 ^ (min (Int.toNat (IntKind.wrap .u64 (a))) 64))))))) (2 ^ (min (Int.toNat (IntKind.wrap .u64 (a))) 64)))))
 (fun r i s=>gK (decide (0<=(IntKind.wrap .u64 (a)))) (k1 (IntKind.wrap .u64 ((IntKind.wrap .u64 (e*4294967296))+i)) (Int.fdiv (IntKind.wrap .u64 ((IntKind.wrap .u64 ((IntKind.wrap .u64 ((IntKind.wrap .u64 ((IntKind.wrap .u64 ((IntKind.wrap .u64 ((iOr .u64 (IntKind.wrap .u64 (d*2 ^ (min (Int.toNat (IntKind.wrap .u64 (a))) 64))) (Int.fdiv c (2 ^ (min (Int.toNat (IntKind.wrap .u64 (64 - (IntKind.wrap .u64 (a))))) 64))))*4294967296))+(Int.fdiv (IntKind.wrap .u64 (c*2 ^ (min (Int.toNat (IntKind.wrap .u64 (a))) 64))) (2 ^ 32)))) - (IntKind.wrap .u64 (e*(IntKind.wrap .u64 (b*2 ^ (min (Int.toNat (IntKind.wrap .u64 (a))) 64)))))))*4294967296))+(iAnd .u64 (IntKind.wrap .u64 (c*2 ^ (min (Int.toNat (IntKind.wrap .u64 (a))) 64))) 4294967295))) - (IntKind.wrap .u64 (i*(IntKind.wrap .u64 (b*2 ^ (min (Int.toNat (IntKind.wrap .u64 (a))) 64))))))) (2 ^ (min (Int.toNat (IntKind.wrap .u64 (a))) 64)))))))
 (fun g t w=>gK ((Int.fdiv (IntKind.wrap .u64 (b*2 ^ (min (Int.toNat (IntKind.wrap .u64 (a))) 64))) (2 ^ 32)) != 0) (J185_0_5 α (Int.fdiv (IntKind.wrap .u64 (b*2 ^ (min (Int.toNat (IntKind.wrap .u64 (a))) 64))) (2 ^ 32)) (iAnd .u64 (IntKind.wrap .u64 (b*2 ^ (min (Int.toNat (IntKind.wrap .u64 (a))) 64))) 4294967295) (iAnd .u64 (IntKind.wrap .u64 (c*2 ^ (min (Int.toNat (IntKind.wrap .u64 (a))) 64))) 4294967295) (IntKind.wrap .u64 ((IntKind.wrap .u64 ((IntKind.wrap .u64 ((IntKind.wrap .u64 ((iOr .u64 (IntKind.wrap .u64 (d*2 ^ (min (Int.toNat (IntKind.wrap .u64 (a))) 64))) (Int.fdiv c (2 ^ (min (Int.toNat (IntKind.wrap .u64 (64 - (IntKind.wrap .u64 (a))))) 64))))*4294967296))+(Int.fdiv (IntKind.wrap .u64 (c*2 ^ (min (Int.toNat (IntKind.wrap .u64 (a))) 64))) (2 ^ 32)))) - (IntKind.wrap .u64 (g*(IntKind.wrap .u64 (b*2 ^ (min (Int.toNat (IntKind.wrap .u64 (a))) 64))))))) - (IntKind.wrap .u64 ((IntKind.wrap .u64 (Int.tdiv (IntKind.wrap .u64 ((IntKind.wrap .u64 ((IntKind.wrap .u64 ((iOr .u64 (IntKind.wrap .u64 (d*2 ^ (min (Int.toNat (IntKind.wrap .u64 (a))) 64))) (Int.fdiv c (2 ^ (min (Int.toNat (IntKind.wrap .u64 (64 - (IntKind.wrap .u64 (a))))) 64))))*4294967296))+(Int.fdiv (IntKind.wrap .u64 (c*2 ^ (min (Int.toNat (IntKind.wrap .u64 (a))) 64))) (2 ^ 32)))) - (IntKind.wrap .u64 (g*(IntKind.wrap .u64 (b*2 ^ (min (Int.toNat (IntKind.wrap .u64 (a))) 64))))))) (Int.fdiv (IntKind.wrap .u64 (b*2 ^ (min (Int.toNat (IntKind.wrap .u64 (a))) 64))) (2 ^ 32))))*(Int.fdiv (IntKind.wrap .u64 (b*2 ^ (min (Int.toNat (IntKind.wrap .u64 (a))) 64))) (2 ^ 32)))))) (IntKind.wrap .u64 (Int.tdiv (IntKind.wrap .u64 ((IntKind.wrap .u64 ((IntKind.wrap .u64 ((iOr .u64 (IntKind.wrap .u64 (d*2 ^ (min (Int.toNat (IntKind.wrap .u64 (a))) 64))) (Int.fdiv c (2 ^ (min (Int.toNat (IntKind.wrap .u64 (64 - (IntKind.wrap .u64 (a))))) 64))))*4294967296))+(Int.fdiv (IntKind.wrap .u64 (c*2 ^ (min (Int.toNat (IntKind.wrap .u64 (a))) 64))) (2 ^ 32)))) - (IntKind.wrap .u64 (g*(IntKind.wrap .u64 (b*2 ^ (min (Int.toNat (IntKind.wrap .u64 (a))) 64))))))) (Int.fdiv (IntKind.wrap .u64 (b*2 ^ (min (Int.toNat (IntKind.wrap .u64 (a))) 64))) (2 ^ 32))))
 (fun z j A=>gK (decide (0<=(IntKind.wrap .u64 (a)))) (k1 (IntKind.wrap .u64 ((IntKind.wrap .u64 (g*4294967296))+j)) (Int.fdiv (IntKind.wrap .u64 ((IntKind.wrap .u64 ((IntKind.wrap .u64 ((IntKind.wrap .u64 ((IntKind.wrap .u64 ((IntKind.wrap .u64 ((iOr .u64 (IntKind.wrap .u64 (d*2 ^ (min (Int.toNat (IntKind.wrap .u64 (a))) 64))) (Int.fdiv c (2 ^ (min (Int.toNat (IntKind.wrap .u64 (64 - (IntKind.wrap .u64 (a))))) 64))))*4294967296))+(Int.fdiv (IntKind.wrap .u64 (c*2 ^ (min (Int.toNat (IntKind.wrap .u64 (a))) 64))) (2 ^ 32)))) - (IntKind.wrap .u64 (g*(IntKind.wrap .u64 (b*2 ^ (min (Int.toNat (IntKind.wrap .u64 (a))) 64)))))))*4294967296))+(iAnd .u64 (IntKind.wrap .u64 (c*2 ^ (min (Int.toNat (IntKind.wrap .u64 (a))) 64))) 4294967295))) - (IntKind.wrap .u64 (j*(IntKind.wrap .u64 (b*2 ^ (min (Int.toNat (IntKind.wrap .u64 (a))) 64))))))) (2 ^ (min (Int.toNat (IntKind.wrap .u64 (a))) 64)))))
 (fun B l C=>gK (decide (0<=(IntKind.wrap .u64 (a)))) (k1 (IntKind.wrap .u64 ((IntKind.wrap .u64 (g*4294967296))+l)) (Int.fdiv (IntKind.wrap .u64 ((IntKind.wrap .u64 ((IntKind.wrap .u64 ((IntKind.wrap .u64 ((IntKind.wrap .u64 ((IntKind.wrap .u64 ((iOr .u64 (IntKind.wrap .u64 (d*2 ^ (min (Int.toNat (IntKind.wrap .u64 (a))) 64))) (Int.fdiv c (2 ^ (min (Int.toNat (IntKind.wrap .u64 (64 - (IntKind.wrap .u64 (a))))) 64))))*4294967296))+(Int.fdiv (IntKind.wrap .u64 (c*2 ^ (min (Int.toNat (IntKind.wrap .u64 (a))) 64))) (2 ^ 32)))) - (IntKind.wrap .u64 (g*(IntKind.wrap .u64 (b*2 ^ (min (Int.toNat (IntKind.wrap .u64 (a))) 64)))))))*4294967296))+(iAnd .u64 (IntKind.wrap .u64 (c*2 ^ (min (Int.toNat (IntKind.wrap .u64 (a))) 64))) 4294967295))) - (IntKind.wrap .u64 (l*(IntKind.wrap .u64 (b*2 ^ (min (Int.toNat (IntKind.wrap .u64 (a))) 64))))))) (2 ^ (min (Int.toNat (IntKind.wrap .u64 (a))) 64))))))))))))))))
def f185_0:Tf181_0:=sld f185_0g
def pa185_0:PT (List DV):=pA [pV false [(dI .u64)],pV false [(dI .u64)],pV false [(dI .u64)]]
def Fn185_0 (v:Tf181_0)(α:Type)(k:RT α):Int->Int->Int->Op α:=fun a b c=>v α a b c (fun d e=>ur184_0_0 k d e)
def cm185_0:MCode:=(MCode.put (.m [⟨p185_0_0,F185_0_2 J185_0_2⟩]) [1,1,1,1,1,1,1,1,1,1,1,1,1,1] (MCode.put (.m [⟨p185_0_0,F185_0_1 L185_0_1⟩]) [1,1,1,1,1,1,1,1,1,1,1,1,1,1,0,0] (MCode.put (.m [⟨p185_0_0,F185_0_0 J185_0_0⟩]) [1,1,1,1,1,1,1,1,1,1,1,1,1,1,0,0,0] (MCode.put (.m [⟨p185_0_3,F185_0_5 J185_0_5⟩]) [1,1,1,1,1,1,1,1,1,1,1,1,1,1,1,1,1,1] (MCode.put (.m [⟨p185_0_3,F185_0_4 L185_0_4⟩]) [1,1,1,1,1,1,1,1,1,1,1,1,1,1,1,1,1,1,0,0] (MCode.put (.m [⟨p185_0_3,F185_0_3 J185_0_3⟩]) [1,1,1,1,1,1,1,1,1,1,1,1,1,1,1,1,1,1,0,0,0] (emb ac185)))))))
theorem io185_0:InstOk Pg 185 nt185 ⟨pa185_0,Fn185_0 f185_0⟩:=inst_s eo185_0 followsTry (codeF_is Tryz.func185 (by kernel_rfl)) sh19 cm185_0 ((put_erase _ _).trans ((put_erase _ _).trans ((put_erase _ _).trans ((put_erase _ _).trans ((put_erase _ _).trans ((put_erase _ _).trans (emb_erase _))))))) (put_seq (by kernel_rfl) (put_loop (td:=td185_41) (by kernel_rfl) (put_seq (by kernel_rfl) (put_seq (by kernel_rfl) (put_loop (td:=td185_62) (by kernel_rfl) (put_seq (by kernel_rfl) (emb_good ac185) ⟨m185_0_3,TT⟩) ⟨m185_0_4,TT⟩) ⟨m185_0_5,TT⟩) ⟨m185_0_0,TT⟩) ⟨m185_0_1,TT⟩) ⟨m185_0_2,TT⟩) fun _ _=>by kernel_rfl
abbrev nt139:Nat:=6
def sh139:SG:=[(3,iS 2)]
def tr139:TG:=[tT 0 [1],tT 1 [2]]
def ac139:ACode:=codeF Pg Tryz.f139 tr139 tl13
def E139_0:EnvK:=EnvK.of [⟨175,nt175,[⟨pa161_0,Fn175_0 f175_0⟩]⟩,⟨141,nt141,[⟨pa215_0,Fn141_0 f141_0⟩]⟩] noSeq
theorem eo139_0:E139_0.Ok Pg:=EnvK.of_ok noSeq_ok ⟨⟨io175_0,TT⟩,⟨io141_0,TT⟩,TT⟩
def f139_0g (α:Type)(a b:Int)(k1:Int->Op α):Op α:=
 f175_0 α a b
 (fun c=>f141_0 α c
 (fun d=>k1 d))
def f139_0:Tf19_0:=sld f139_0g
def Fn139_0 (v:Tf19_0)(α:Type)(k:RT α):Int->Int->Op α:=fun a b=>v α a b (fun c=>ur19_0_0 k c)
def cm139_0:MCode:=(emb ac139)
theorem io139_0:InstOk Pg 139 nt139 ⟨pa161_0,Fn139_0 f139_0⟩:=inst_s eo139_0 followsTry (codeF_is Tryz.func139 (by kernel_rfl)) sh139 cm139_0 (emb_erase _) (emb_good ac139) fun _ _=>by kernel_rfl
abbrev nt144:Nat:=14
def tr144:TG:=[tT 0 [0],tT 1 [0,3],tT 2 [3,10],tT 3 [3],tT 4 [2]]
def ac144:ACode:=codeF Pg Tryz.f144 tr144 tl13
def E144_0:EnvK:=EnvK.of [⟨141,nt141,[⟨pa215_0,Fn141_0 f141_0⟩]⟩] noSeq
theorem eo144_0:E144_0.Ok Pg:=EnvK.of_ok noSeq_ok ⟨⟨io141_0,TT⟩,TT⟩
def f144_0g (α:Type)(b:Int)(k1:Int->Op α):Op α:=
 f141_0 α b
 (fun a=>cK (decide ((w64 (a*a)) < b))
 (k1 (w64 (a+1)))
 (k1 a))
def f144_0:Tf215_0:=sld f144_0g
def Fn144_0 (v:Tf215_0)(α:Type)(k:RT α):Int->Op α:=fun a=>v α a (fun b=>ur19_0_0 k b)
def cm144_0:MCode:=(emb ac144)
theorem io144_0:InstOk Pg 144 nt144 ⟨pa215_0,Fn144_0 f144_0⟩:=inst_s eo144_0 followsTry (codeF_is Tryz.func144 (by kernel_rfl)) sh19 cm144_0 (emb_erase _) (emb_good ac144) fun _ _=>by kernel_rfl
abbrev nt180:Nat:=19
def sh180:SG:=[(5,iT),(8,iS 3),(10,iS 2),(11,iT),(17,iT)]
def tr180:TG:=[tT 0 [1,2,3],tT 1 [1,2,3,7],tT 2 [3,4],tT 3 [3,4]]
def ac180:ACode:=codeF Pg Tryz.f180 tr180 tl13
def E180_0:EnvK:=EnvK.of [⟨140,nt140,[⟨pa19_0,Fn140_0 f140_0⟩]⟩,⟨181,nt181,[⟨pa181_0,Fn181_0 f181_0⟩]⟩] noSeq
theorem eo180_0:E180_0.Ok Pg:=EnvK.of_ok noSeq_ok ⟨⟨io140_0,TT⟩,⟨io181_0,TT⟩,TT⟩
abbrev Tf180_0:Type 1:=(α:Type)->Int->Int->Int->(Int->Int->Int->Op α)->Op α
def f180_0g (α:Type)(a b c:Int)(k1:Int->Int->Int->Op α):Op α:=
 f140_0 α c 1000000000
 (fun d=>cK (!d)
 (k1 a b 2)
 (f181_0 α a b (Int.tmod (w64 ((Int.tmod c 4)+4)) 4)
 (fun e g=>k1 e g 0)))
def f180_0:Tf180_0:=sld f180_0g
def pa180_0:PT (List DV):=pA [pV true [(dI .i64),(dI .i64),(dI .i64)],pV false [(dP [(dI .i64)] 0)]]
def Fn180_0 (v:Tf180_0)(α:Type)(k:RT α):I4 (Op α):=fun a b c d=>v α a b d (fun e g h=>ur177_0_0 k e g c h)
def cm180_0:MCode:=(emb ac180)
theorem io180_0:InstOk Pg 180 nt180 ⟨pa180_0,Fn180_0 f180_0⟩:=inst_s eo180_0 followsTry (codeF_is Tryz.func180 (by kernel_rfl)) sh180 cm180_0 (emb_erase _) (emb_good ac180) fun _ _=>by kernel_rfl
abbrev nt186:Nat:=12
def tr186:TG:=[tT 0 [0],tT 1 [2]]
def ac186:ACode:=codeF Pg Tryz.f186 tr186 tl13
def E186_0:EnvK:=EnvK.of [⟨204,nt204,[⟨pa183_0,Fn204_0 f204_0⟩]⟩,⟨205,nt205,[⟨pa205_0,Fn205_0 f205_0⟩]⟩] noSeq
theorem eo186_0:E186_0.Ok Pg:=EnvK.of_ok noSeq_ok ⟨⟨io204_0,TT⟩,⟨io205_0,TT⟩,TT⟩
abbrev Tf186_0:Type 1:=(α:Type)->Nat->(Bool->Op α)->Op α
def f186_0g (α:Type)(a:Nat)(k1:Bool->Op α):Op α:=
 f204_0 α a
 (k1 false)
 (fun b=>cK ((FloatKind.format .f64).order b a == some Ordering.eq)
 (f205_0 α a 0
 (fun c=>k1 (!c)))
 (k1 false))
def f186_0:Tf186_0:=sld f186_0g
def Fn186_0 (v:Tf186_0)(α:Type)(k:RT α):Nat->Op α:=fun a=>v α a (fun b=>ur161_0_0 k b)
def cm186_0:MCode:=(emb ac186)
theorem io186_0:InstOk Pg 186 nt186 ⟨pa183_0,Fn186_0 f186_0⟩:=inst_s eo186_0 followsTry (codeF_is Tryz.func186 (by kernel_rfl)) sh19 cm186_0 (emb_erase _) (emb_good ac186) fun _ _=>by kernel_rfl
abbrev nt182:Nat:=29
def sh182:SG:=[(6,iT),(12,iT),(18,iT),(24,iS 2),(27,iT)]
def tr182:TG:=[tT 0 [1,2],tT 1 [1,2,21],tT 2 [2,3],tT 3 [2,3]]
def ac182:ACode:=codeF Pg Tryz.f182 tr182 tl13
def p182_0_0:PT St:=pS [sP 1,sP 2] [eBox 1 (xs 3),eBox 2 [(cD (dX .f64)),xI]]
def u182_0_0 {β:Type}(g:St->β):Int->Int->Int->Nat->Nat->Int->β:=p182_0_0.unc g
def p182_0_1:PT St:=pS [sP 1,sP 2,sY 21 dB] [eBox 1 (xs 3),eBox 2 [(cD (dX .f64)),xI]]
def u182_0_1 {β:Type}(g:St->β):Bool->Int->Int->Int->Nat->Nat->Int->β:=p182_0_1.unc g
def pr182_0_0:PT (List RV):=pRs [pR true [rD (dX .f64),rD (dI .i64)],wI]
def ur182_0_0 {β:Type}(g:List RV->β):Nat->Nat->Int->Int->β:=pr182_0_0.unc g
def E182_0:EnvK:=EnvK.of [⟨140,nt140,[⟨pa19_0,Fn140_0 f140_0⟩]⟩,⟨146,nt146,[⟨pa146_0,Fn146_0 f146_0⟩]⟩,⟨201,nt201,[⟨pa161_0,Fn201_0 f201_0⟩]⟩] noSeq
theorem eo182_0:E182_0.Ok Pg:=EnvK.of_ok noSeq_ok ⟨⟨io140_0,TT⟩,⟨io146_0,TT⟩,⟨io201_0,TT⟩,TT⟩
def c182_0_4:MCode:=MCode.sub [1,0,0] (emb ac182)
def J182_0_0g (α:Type)(a b c:Int)(k1:Bool->Op α):Op α:=
 f140_0 α a 67108864
 (fun d=>cK (!d)
 (k1 true)
 (f140_0 α b 67108864
 (fun e=>cK (!e)
 (k1 true)
 (f146_0 α c 0 67108864
 (fun g=>k1 (!g))))))
def J182_0_0:Tf146_0:=sld J182_0_0g
def F182_0_0 (v:Tf146_0)(α:Type)(K:KT α):Int->Int->Int->Nat->Nat->Int->Op α:=fun a b c d e g=>v α a b c (fun h=>u182_0_1 (K .normal) h a b c d e g)
theorem m182_0_0:∀ (α:Type) (K:KT α),F182_0_0 J182_0_0 α K=p182_0_0.unc fun σ=>runM Pg E182_0 sh182 c182_0_4 K σ:=sld0 (fun α K=>by kernel_rfl)
abbrev Tf182_0:Type 1:=(α:Type)->Int->Int->Int->(Nat->Nat->Int->Int->Op α)->Op α
def f182_0g (α:Type)(a b c:Int)(k1:Nat->Nat->Int->Int->Op α):Op α:=
 J182_0_0 α a b c
 (fun d=>cK d
 (k1 0 0 0 8)
 (f201_0 α a b
 (fun e g=>k1 e g c 0)))
def f182_0:Tf182_0:=sld f182_0g
def pa182_0:PT (List DV):=pA [pV true [(dI .i64),(dI .i64),(dI .i64)]]
def Fn182_0 (v:Tf182_0)(α:Type)(k:RT α):Int->Int->Int->Op α:=fun a b c=>v α a b c (fun d e g h=>ur182_0_0 k d e g h)
def cm182_0:MCode:=(MCode.put (.m [⟨p182_0_0,F182_0_0 J182_0_0⟩]) [1,0] (emb ac182))
theorem io182_0:InstOk Pg 182 nt182 ⟨pa182_0,Fn182_0 f182_0⟩:=inst_s eo182_0 followsTry (codeF_is Tryz.func182 (by kernel_rfl)) sh182 cm182_0 ((put_erase _ _).trans (emb_erase _)) (put_seq (by kernel_rfl) (emb_good ac182) ⟨m182_0_0,TT⟩) fun _ _=>by kernel_rfl
abbrev nt115:Nat:=24
def sh115:SG:=[(8,iT),(14,iT),(20,iT),(22,iT)]
def tr115:TG:=[tT 0 [1,2],tT 1 [2,5],tT 2 [4],tT 3 [18],tT 4 [4],tT 5 [4]]
def ac115:ACode:=codeF Pg Tryz.f115 tr115 tl13
def p115_0_0:PT St:=pS [sY 1 (dFn 116 []),sP 2] [eBox 2 [xI,xI]]
def u115_0_0 {β:Type}(g:St->β):Int->Int->β:=p115_0_0.unc g
def E115_0:EnvK:=EnvK.of [⟨116,nt116,[⟨pa215_0,Fn116_0 f116_0⟩]⟩] noSeq
theorem eo115_0:E115_0.Ok Pg:=EnvK.of_ok noSeq_ok ⟨⟨io116_0,TT⟩,TT⟩
def c115_0_5:MCode:=MCode.sub [1,0,0,0] (emb ac115)
def J115_0_0g (α:Type)(a b:Int)(k1:Bool->Op α):Op α:=
 f116_0 α a
 (fun c=>cK (!c)
 (k1 true)
 (f116_0 α b
 (fun d=>k1 (!d))))
def J115_0_0:Tf161_0:=sld J115_0_0g
def F115_0_0 (v:Tf161_0)(α:Type)(K:KT α):Int->Int->Op α:=fun a b=>v α a b (fun c=>u196_0_1 (K .normal) c a b)
theorem m115_0_0:∀ (α:Type) (K:KT α),F115_0_0 J115_0_0 α K=p115_0_0.unc fun σ=>runM Pg E115_0 sh115 c115_0_5 K σ:=sld0 (fun α K=>by kernel_rfl)
def f115_0g (α:Type)(a b:Int)(k1:Int->Op α):Op α:=
 J115_0_0 α a b
 (fun c=>cK c
 (k1 2)
 (cK (decide (b < a))
 (k1 10)
 (k1 0)))
def f115_0:Tf19_0:=sld f115_0g
def pa115_0:PT (List DV):=pA [pV true [(dI .i64),(dI .i64)],pV false [(dFn 116 [])]]
def Fn115_0 (v:Tf19_0)(α:Type)(k:RT α):Int->Int->Op α:=fun a b=>v α a b (fun c=>ur19_0_0 k c)
def cm115_0:MCode:=(MCode.put (.m [⟨p115_0_0,F115_0_0 J115_0_0⟩]) [1,0,0] (emb ac115))
theorem io115_0:InstOk Pg 115 nt115 ⟨pa115_0,Fn115_0 f115_0⟩:=inst_s eo115_0 followsTry (codeF_is Tryz.func115 (by kernel_rfl)) sh115 cm115_0 ((put_erase _ _).trans (emb_erase _)) (put_seq (by kernel_rfl) (emb_good ac115) ⟨m115_0_0,TT⟩) fun _ _=>by kernel_rfl
def p115_1_0:PT St:=pS [sY 1 (dFn 117 []),sP 2] [eBox 2 [xI,xI]]
def u115_1_0 {β:Type}(g:St->β):Int->Int->β:=p115_1_0.unc g
def E115_1:EnvK:=EnvK.of [⟨117,nt117,[⟨pa215_0,Fn117_0 f117_0⟩]⟩] noSeq
theorem eo115_1:E115_1.Ok Pg:=EnvK.of_ok noSeq_ok ⟨⟨io117_0,TT⟩,TT⟩
def c115_1_5:MCode:=MCode.sub [1,0,0,0] (emb ac115)
def J115_1_0g (α:Type)(a b:Int)(k1:Bool->Op α):Op α:=
 f117_0 α a
 (fun c=>cK (!c)
 (k1 true)
 (f117_0 α b
 (fun d=>k1 (!d))))
def J115_1_0:Tf161_0:=sld J115_1_0g
def F115_1_0 (v:Tf161_0)(α:Type)(K:KT α):Int->Int->Op α:=fun a b=>v α a b (fun c=>u196_0_1 (K .normal) c a b)
theorem m115_1_0:∀ (α:Type) (K:KT α),F115_1_0 J115_1_0 α K=p115_1_0.unc fun σ=>runM Pg E115_1 sh115 c115_1_5 K σ:=sld0 (fun α K=>by kernel_rfl)
def f115_1g (α:Type)(a b:Int)(k1:Int->Op α):Op α:=
 J115_1_0 α a b
 (fun c=>cK c
 (k1 2)
 (cK (decide (b < a))
 (k1 10)
 (k1 0)))
def f115_1:Tf19_0:=sld f115_1g
def pa115_1:PT (List DV):=pA [pV true [(dI .i64),(dI .i64)],pV false [(dFn 117 [])]]
def Fn115_1 (v:Tf19_0)(α:Type)(k:RT α):Int->Int->Op α:=fun a b=>v α a b (fun c=>ur19_0_0 k c)
def cm115_1:MCode:=(MCode.put (.m [⟨p115_1_0,F115_1_0 J115_1_0⟩]) [1,0,0] (emb ac115))
theorem io115_1:InstOk Pg 115 nt115 ⟨pa115_1,Fn115_1 f115_1⟩:=inst_s eo115_1 followsTry (codeF_is Tryz.func115 (by kernel_rfl)) sh115 cm115_1 ((put_erase _ _).trans (emb_erase _)) (put_seq (by kernel_rfl) (emb_good ac115) ⟨m115_1_0,TT⟩) fun _ _=>by kernel_rfl
abbrev nt114:Nat:=56
def sh114:SG:=[(4,iS 9),(9,iT),(14,iS 2),(21,iT),(24,iT),(28,iS 2),(34,iT),(37,iT),(41,iT),(46,iT),(52,iT),(54,iT)]
def tr114:TG:=[tT 0 [1],tT 1 [1,3],tT 2 [2],tT 3 [1,7],tT 4 [2],tT 5 [1,18],tT 6 [2],tT 7 [1,26],tT 8 [2],tT 9 [1,31],tT 10 [2],tT 11 [1,39],tT 12 [2],tT 13 [50],tT 14 [2],tT 15 [2]]
def ac114:ACode:=codeF Pg Tryz.f114 tr114 tl13
def p114_0_0:PT St:=pS [sP 1,sY 3 dB] [eBox 1 (xs 9)]
def u114_0_0 {β:Type}(g:St->β):Bool->I9 β:=p114_0_0.unc g
def p114_0_1:PT St:=pS [sP 1,sY 7 dB] [eBox 1 (xs 9)]
def u114_0_1 {β:Type}(g:St->β):Bool->I9 β:=p114_0_1.unc g
def p114_0_2:PT St:=pS [sP 1,sY 31 dB] [eBox 1 (xs 9)]
def u114_0_2 {β:Type}(g:St->β):Bool->I9 β:=p114_0_2.unc g
def p114_0_3:PT St:=pS [sP 1,sY 39 dB] [eBox 1 (xs 9)]
def u114_0_3 {β:Type}(g:St->β):Bool->I9 β:=p114_0_3.unc g
def E114_0:EnvK:=EnvK.of [⟨158,nt158,[⟨pa72_0,Fn158_0 f158_0⟩]⟩,⟨94,nt94,[⟨pa146_0,Fn94_0 f94_0⟩]⟩,⟨159,nt159,[⟨pa159_0,Fn159_0 f159_0⟩]⟩] noSeq
theorem eo114_0:E114_0.Ok Pg:=EnvK.of_ok noSeq_ok ⟨⟨io158_0,TT⟩,⟨io94_0,TT⟩,⟨io159_0,TT⟩,TT⟩
def c114_0_30:MCode:=MCode.sub [1,0,0,1,1,1,1,1,1,1,1,1,1,0] (emb ac114)
def J114_0_1g (α:Type)(a b:Int)(k1:Bool->Op α):Op α:=
 f94_0 α a 0 10000
 (fun c=>cK (!c)
 (k1 true)
 (f94_0 α b 0 10000
 (fun d=>k1 (!d))))
def J114_0_1:Tf161_0:=sld J114_0_1g
def F114_0_1 (v:Tf161_0)(α:Type)(K:KT α):Bool->I9 (Op α):=fun m c d e g h i j a b=>v α a b (fun l=>u114_0_3 (K .normal) l c d e g h i j a b)
theorem m114_0_1:∀ (α:Type) (K:KT α),F114_0_1 J114_0_1 α K=p114_0_2.unc fun σ=>runM Pg E114_0 sh114 c114_0_30 K σ:=sld0 (fun α K=>by kernel_rfl)
def c114_0_10:MCode:=MCode.sub [1,0,0,1,1,0] (emb ac114)
def J114_0_0g (α:Type)(a b c:Int)(k1:Bool->Op α):Op α:=
 f94_0 α a 5000 80000
 (fun d=>cK (!d)
 (k1 true)
 (f159_0 α b c 0 9999
 (fun e=>k1 (!e))))
def J114_0_0:Tf146_0:=sld J114_0_0g
def F114_0_0 (v:Tf146_0)(α:Type)(K:KT α):Bool->I9 (Op α):=fun m d e a b c g h i j=>v α a b c (fun l=>u114_0_1 (K .normal) l d e a b c g h i j)
theorem m114_0_0:∀ (α:Type) (K:KT α),F114_0_0 J114_0_0 α K=p114_0_0.unc fun σ=>runM Pg E114_0 sh114 c114_0_10 K σ:=sld0 (fun α K=>by kernel_rfl)
abbrev Tf114_0:Type 1:=(α:Type)->Int->Int->Int->Int->Int->Int->Int->Int->Int->(Int->Op α)->Op α
def f114_0g (α:Type)(h i j a b c d e g:Int)(k1:Int->Op α):Op α:=
 f158_0 α h i
 (fun l=>cK (!l)
 (k1 11)
 (J114_0_0 α j a b
 (fun m=>cK m
 (k1 2)
 (cK (decide (b < a))
 (k1 10)
 (f159_0 α c d 1000 200000
 (fun o=>cK (!o)
 (k1 2)
 (cK (decide (d < c))
 (k1 10)
 (J114_0_1 α e g
 (fun p=>cK p
 (k1 2)
 (cK (decide (g < e))
 (k1 24)
 (k1 0)))))))))))
def f114_0:Tf114_0:=sld f114_0g
def Fn114_0 (v:Tf114_0)(α:Type)(k:RT α):I9 (Op α):=fun a b c d e g h i j=>v α a b c d e g h i j (fun l=>ur19_0_0 k l)
def cm114_0:MCode:=(MCode.put (.m [⟨p114_0_0,F114_0_0 J114_0_0⟩]) [1,0,0,1,1] (MCode.put (.m [⟨p114_0_2,F114_0_1 J114_0_1⟩]) [1,0,0,1,1,1,1,1,1,1,1,1,1] (emb ac114)))
theorem io114_0:InstOk Pg 114 nt114 ⟨pa72_0,Fn114_0 f114_0⟩:=inst_s eo114_0 followsTry (codeF_is Tryz.func114 (by kernel_rfl)) sh114 cm114_0 ((put_erase _ _).trans ((put_erase _ _).trans (emb_erase _))) (put_seq (by kernel_rfl) (put_seq (by kernel_rfl) (emb_good ac114) ⟨m114_0_1,TT⟩) ⟨m114_0_0,TT⟩) fun _ _=>by kernel_rfl
abbrev nt165:Nat:=32
def sh165:SG:=[(6,iS 2),(14,iT),(17,iT),(23,iT),(26,iT),(31,iS 2)]
def tr165:TG:=[tT 0 [1,2],tT 1 [1,2,4],tT 2 [1,2,4,9],tT 3 [2,3],tT 4 [1,2,5],tT 5 [1,2,5,15],tT 6 [1,2,5],tT 7 [1,2,5,24],tT 8 [2,5],tT 9 [2,3]]
def ac165:ACode:=codeF Pg Tryz.f165 tr165 tl13
def p165_0_0:PT St:=pS [sP 1,sP 2,sP 5] [eBox 1 [xI,xI],eBox 2 [xI,xI],eBox 5 [xI,xI]]
def u165_0_0 {β:Type}(g:St->β):I6 β:=p165_0_0.unc g
def p165_0_1:PT St:=pS [sP 1,sP 2,sP 5,sY 15 dB] [eBox 1 [xI,xI],eBox 2 [xI,xI],eBox 5 [xI,xI]]
def u165_0_1 {β:Type}(g:St->β):Bool->I6 β:=p165_0_1.unc g
def pr165_0_0:PT (List RV):=pRs [pR true [rD (dI .i64),rD (dI .i64)],wI]
def ur165_0_0 {β:Type}(g:List RV->β):Int->Int->Int->β:=pr165_0_0.unc g
def E165_0:EnvK:=EnvK.of [⟨196,nt196,[⟨pa181_0,Fn196_0 f196_0⟩]⟩,⟨198,nt198,[⟨pa215_0,Fn198_0 f198_0⟩]⟩,⟨88,nt88,[⟨pa19_0,Fn88_0 f88_0⟩]⟩,⟨199,nt199,[⟨pa215_0,Fn199_0 f199_0⟩]⟩,⟨89,nt89,[⟨pa19_0,Fn89_0 f89_0⟩]⟩] noSeq
theorem eo165_0:E165_0.Ok Pg:=EnvK.of_ok noSeq_ok ⟨⟨io196_0,TT⟩,⟨io198_0,TT⟩,⟨io88_0,TT⟩,⟨io199_0,TT⟩,⟨io89_0,TT⟩,TT⟩
def c165_0_13:MCode:=MCode.sub [1,1,1,0] (emb ac165)
def J165_0_0g (α:Type)(a:Int)(k1:Int->Op α)(k2:Bool->Op α):Op α:=
 cK (decide (a<=16777216))
 (f198_0 α a
 (fun c=>f88_0 α c 1024
 (fun b=>k1 (if b > 0 then b else 0))))
 (k2 (decide (a<=16777216)))
def J165_0_0:TJ216_0_0:=sld J165_0_0g
def F165_0_0 (v:TJ216_0_0)(α:Type)(K:KT α):I6 (Op α):=fun c a d e h g=>v α a (fun b=>u165_0_0 (K .normal) c a d e b g) (fun b=>u165_0_1 (K .normal) b c a d e h g)
theorem m165_0_0:∀ (α:Type) (K:KT α),F165_0_0 J165_0_0 α K=p165_0_0.unc fun σ=>runM Pg E165_0 sh165 c165_0_13 K σ:=sld0 (fun α K=>by kernel_rfl)
abbrev Tf165_0:Type 1:=(α:Type)->Int->Int->(Int->Int->Int->Op α)->Op α
def f165_0g (α:Type)(a b:Int)(k1:Int->Int->Int->Op α):Op α:=
 f196_0 α a b 0
 (fun c=>cK (c != 0)
 (k1 0 0 c)
 (J165_0_0 α b
 (fun d=>cK (decide (a<=16777216))
 (f199_0 α a
 (fun h=>f89_0 α h 1024
 (fun e=>k1 d (if e < 1048576 then e else 1048576) 0)))
 (k1 d 1 0))
 (fun j=>cK (decide (a<=16777216))
 (f199_0 α a
 (fun i=>f89_0 α i 1024
 (fun g=>k1 0 (if g < 1048576 then g else 1048576) 0)))
 (k1 0 1 0))))
def f165_0:Tf165_0:=sld f165_0g
def Fn165_0 (v:Tf165_0)(α:Type)(k:RT α):Int->Int->Op α:=fun a b=>v α a b (fun c d e=>ur165_0_0 k c d e)
def cm165_0:MCode:=(MCode.put (.m [⟨p165_0_0,F165_0_0 J165_0_0⟩]) [1,1,1] (emb ac165))
theorem io165_0:InstOk Pg 165 nt165 ⟨pa161_0,Fn165_0 f165_0⟩:=inst_s eo165_0 followsTry (codeF_is Tryz.func165 (by kernel_rfl)) sh165 cm165_0 ((put_erase _ _).trans (emb_erase _)) (put_seq (by kernel_rfl) (emb_good ac165) ⟨m165_0_0,TT⟩) fun _ _=>by kernel_rfl
abbrev nt220:Nat:=42
def sh220:SG:=[(27,iS 2),(28,iS 2),(34,iS 2),(36,iS 2),(40,iS 2),(41,iS 2)]
def tr220:TG:=[tT 0 [0,2],tT 1 [0,2,3],tT 2 [0,2,4,5],tT 3 [0,2,4,5,6,7],tT 4 [0,2,4,5,6,7,22],tT 5 [0,2,4,5,6,7,8],tT 6 [0,2,4,5,6,7,8,9],tT 7 [0,2,4,5,6,7,8,9,32],tT 8 [0,2,4,5,6,7],tT 9 [0,2,4,5,6,7],tT 10 [2,4,5,39],tT 11 [2],tT 12 [2]]
def tl220:TG:=[tT 4 [0,2,4,5,6,7]]
def ac220:ACode:=codeF Pg Tryz.f220 tr220 tl220
def td220_11:OT:=tdC (MCode.sub [1,1,1,1,0,0] (emb ac220))
def p220_0_0:PT St:=pS [sI 0,sP 2,sP 4,sP 5,sI 6,sI 7] [eBox 2 [xI,xI],eBox 4 [xI,xI],eBox 5 [xI,xI]]
def u220_0_0 {β:Type}(g:St->β):I9 β:=p220_0_0.unc g
def p220_0_1:PT St:=pS [sI 0,sP 2,sP 4,sP 5,sI 6,sI 7,sY 22 dB] [eBox 2 [xI,xI],eBox 4 [xI,xI],eBox 5 [xI,xI]]
def u220_0_1 {β:Type}(g:St->β):Int->Int->Int->Bool->I6 β:=p220_0_1.unc g
def E220_0:EnvK:=EnvK.of [⟨141,nt141,[⟨pa215_0,Fn141_0 f141_0⟩]⟩,⟨222,nt222,[⟨pa42_0,Fn222_0 f222_0⟩]⟩] noSeq
theorem eo220_0:E220_0.Ok Pg:=EnvK.of_ok noSeq_ok ⟨⟨io141_0,TT⟩,⟨io222_0,TT⟩,TT⟩
def c220_0_11:MCode:=MCode.sub [1,1,1,1,0,0,0] (emb ac220)
def S220_0_0 (α:Type)(c b a d e g h:Int)(kn:I6 (Op α))(k1:Int->Int->Bool->I4 (Op α)):Op α:=
 cK (c != b)
 (cK (c != a)
 (f222_0 α d e g h
 (fun i j=>cK (decide ((w64 (Int.tdiv (w64 (b+a)) 2))<=c))
 (kn (w64 (Int.tdiv (w64 (b+a)) 2)) a i j g h)
 (kn b (w64 (Int.tdiv (w64 (b+a)) 2)) d e i j)))
 (k1 b a (c != a) d e g h))
 (k1 b a false d e g h)
def R220_0_0 (α:Type)(a:Int)(k1:Int->Int->Bool->I4 (Op α)):Nat->I6 (Op α)
 | 0,_,_,_,_,_,_=>none
 | n+1,b,c,d,e,g,h=>S220_0_0 α a b c d e g h (R220_0_0 α a k1 n) k1
def L220_0_0g (α:Type)(a:Int)(k1:Int->Int->Bool->I4 (Op α))(b c d e g h:Int):Op α:=R220_0_0 α a k1 fuel b c d e g h
abbrev TL220_0_0:Type 1:=(α:Type)->Int->(Int->Int->Bool->I4 (Op α))->I6 (Op α)
def L220_0_0:TL220_0_0:=sld L220_0_0g
def F220_0_0 (v:TL220_0_0)(α:Type)(K:KT α):I9 (Op α):=fun a b c d e g h i j=>v α a (fun l m o p q r s=>u220_0_1 (K (.exit 0)) a l m o d e p q r s) b c g h i j
theorem r220_0_0 (α:Type)(K:KT α)(Kn:SK α)(a b c i j d e g h:Int):u220_0_0 (fun σ=>runM Pg E220_0 sh220 c220_0_11 (thenK (fun σ=>tidyK td220_11 σ Kn) K) σ) a b c i j d e g h=S220_0_0 α a b c d e g h (fun b c d e g h=>u220_0_0 Kn a b c i j d e g h) (fun l m o p q r s=>u220_0_1 (K (.exit 0)) a l m o i j p q r s):=by kernel_rfl
theorem t220_0_0 (α:Type)(K:KT α):∀ (n:Nat) (a b c i j d e g h:Int),R220_0_0 α a (fun l m o p q r s=>u220_0_1 (K (.exit 0)) a l m o i j p q r s) n b c d e g h=u220_0_0 (loopT (runM Pg E220_0 sh220 c220_0_11) td220_11 K n) a b c i j d e g h:=by
 intro n
 induction n with
 | zero=>intros;rfl
 | succ n ih=>intro a b c i j d e g h;exact (congrArg (fun kn=>S220_0_0 α a b c d e g h kn (fun l m o p q r s=>u220_0_1 (K (.exit 0)) a l m o i j p q r s)) (funext fun b=>funext fun c=>funext fun d=>funext fun e=>funext fun g=>funext fun h=>ih a b c i j d e g h)).trans (r220_0_0 α K (loopT (runM Pg E220_0 sh220 c220_0_11) td220_11 K n) a b c i j d e g h).symm
theorem m220_0_0:∀ (α:Type) (K:KT α),F220_0_0 L220_0_0 α K=p220_0_0.unc fun σ=>loopT (runM Pg E220_0 sh220 c220_0_11) td220_11 K fuel σ:=sld0 (fun α K=>funext fun a=>funext fun b=>funext fun c=>funext fun d=>funext fun e=>funext fun g=>funext fun h=>funext fun i=>funext fun j=>t220_0_0 α K fuel a b c d e g h i j)
abbrev Tf220_0:Type 1:=(α:Type)->Int->(Int->Int->Op α)->Op α
def f220_0g (α:Type)(a:Int)(k1:Int->Int->Op α):Op α:=
 f141_0 α 2251799813685248
 (fun b=>L220_0_0 α a
 (fun c i j d e g h=>cK (a == c)
 (k1 d e)
 (k1 g h)) 0 524288 67108864 0 b b)
def f220_0:Tf220_0:=sld f220_0g
def Fn220_0 (v:Tf220_0)(α:Type)(k:RT α):Int->Op α:=fun a=>v α a (fun b c=>ur13_0_0 k b c)
def cm220_0:MCode:=(MCode.put (.m [⟨p220_0_0,F220_0_0 L220_0_0⟩]) [1,1,1,1,0,0] (emb ac220))
theorem io220_0:InstOk Pg 220 nt220 ⟨pa215_0,Fn220_0 f220_0⟩:=inst_s eo220_0 followsTry (codeF_is Tryz.func220 (by kernel_rfl)) sh220 cm220_0 ((put_erase _ _).trans (emb_erase _)) (put_loop (td:=td220_11) (by kernel_rfl) (emb_good ac220) ⟨m220_0_0,TT⟩) fun _ _=>by kernel_rfl
end
end Go.AM.K
