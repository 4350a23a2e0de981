/- Printed by KGen. -/
import Derived.Test.YtmcplmhohldpjaaGreatProg
import Derived.Test.YtmcplmhohldpjaaGreatKS1
namespace Go.AM.K
open Go.Proofs
set_option maxRecDepth 100000
set_option linter.unusedVariables false
noncomputable section
theorem TT:True:=True.intro
abbrev sY (n:Nat)(x:_):=sl n (aV false [cD x])
abbrev ln9 (n:Nat):Go.Op:=.call { callee:=.builtin .len,args:=#[(.tmp n)],argTypes:=#[9] }
noncomputable abbrev Pg:=Tryz.prog
abbrev I8 (t:Type):Type:=Int->Int->Int->Int->Int->Int->Int->Int->t
abbrev I15 (t:Type):Type:=Int->Int->Int->Int->Int->Int->Int->Int->Int->Int->Int->Int->Int->Int->Int->t
theorem Ae:Pg.follows .mixedOrders=true:=by kernel_rfl
theorem iZ {E:aE}{f nt:Nat}{tr tl:TG}{ac:au}{rs:List dQ}{T:Type 1}{b:T}{pa:PT (List DV)}{Fn:T->(α:Type)->(List RV->Op α)->pa.Cur (Op α)}
 (hE:E.Ok Pg) (hf:uu Pg f nt tr tl ac rs) (sh:SG) (cm:ag) (em:cm.erase=ac) (gm:cm.Good Pg E sh) (fm:∀ (α:Type) (k:RT α),Fn b α k=pa.unc fun ds=>fnM Pg E sh cm rs k ds):al Pg f nt ⟨pa,Fn (sld b)⟩:=VX hE Ae hf sh cm em gm fm
theorem iP {E:aE}{f nt:Nat}{tr tl:TG}{rs:List dQ}{T:Type 1}{b:T}{pa:PT (List DV)}{Fn:T->(α:Type)->(List RV->Op α)->pa.Cur (Op α)}
 (hE:E.Ok Pg) (ac:au) (hf:uu Pg f nt tr tl ac rs) (sh:SG) (fm:∀ (α:Type) (k:RT α),Fn b α k=pa.unc fun ds=>fnM Pg E sh (emb ac) rs k ds):al Pg f nt ⟨pa,Fn (sld b)⟩:=VX hE Ae hf sh (emb ac) (aG _) (aM ac) fm
def bw:SG:=[]
def arG:TG:=[tT 0 [0,1],tT 1 [0,1],tT 2 [0,1,9],tT 3 [0],tT 4 [4]]
def aX:TG:=[]
def atx:au:=aD Pg Tryz.f19 arG aX
def aad:PT (List RV):=pRs [wI]
def bv {β:Type}(g:List RV->β):Int->β:=aad.unc g
def io0:List (Nat × List Nat):=[(32,[0]),(33,[0]),(34,[0]),(35,[0]),(41,[0]),(73,[0]),(74,[0]),(75,[0]),(76,[0]),(77,[0]),(78,[0]),(80,[0]),(81,[0]),(82,[0]),(83,[0]),(125,[0]),(126,[0]),(127,[0]),(128,[0]),(134,[0]),(163,[0])]
noncomputable abbrev Lk0:List bz:=[]
theorem ak0:bF Lk0 fun c=>bF c.l (al Pg c.f c.nt):=TT
def Ek0:aE:=aE.ofIO Lk0 bD io0
theorem ek0:Ek0.Ok Pg:=aE.ofIO_ok aO ak0
abbrev dz:Type 1:=(α:Type)->Int->Int->(Int->Op α)->Op α
def Xw (α:Type)(b a:Int)(k1:Int->Op α):Op α:=
 gK (a != 0) (cK (decide ((Int.tmod b a) < 0))
 (k1 (w64 ((Int.tmod b a)+a)))
 (k1 (Int.tmod b a)))
def Di:dz:=sld Xw
def ed:PT (List DV):=pA [vI,vI]
def Vt (v:dz)(α:Type)(k:RT α):Int->Int->Op α:=fun a b=>v α a b (fun c=>bv k c)
theorem aj6:al Pg 19 14 ⟨ed,Vt Di⟩:=iP ek0 atx (ah Tryz.func19 (by kernel_rfl)) bw fun _ _=>by kernel_rfl
def abg:SG:=[(4,iT),(6,iT)]
def amz:TG:=[tT 0 [1],tT 1 [2]]
def aqX:au:=aD Pg Tryz.f161 amz aX
def R4:PT (List RV):=pRs [pR false [rD dB]]
def bG {β:Type}(g:List RV->β):Bool->β:=R4.unc g
abbrev bS:Type 1:=(α:Type)->Int->Int->(Bool->Op α)->Op α
def Pq (α:Type)(a b:Int)(k1:Bool->Op α):Op α:=
 k1 (decide (2<=(w64 (b - a))))
def od:bS:=sld Pq
def bB:PT (List DV):=pA [pV true [(dI .i64),(dI .i64)]]
def M5 (v:bS)(α:Type)(k:RT α):Int->Int->Op α:=fun a b=>v α a b (fun c=>bG k c)
theorem acu:al Pg 161 9 ⟨bB,M5 od⟩:=iP ek0 aqX (ah Tryz.func161 (by kernel_rfl)) abg fun _ _=>by kernel_rfl
def aq8:TG:=[tT 0 [0,1,4],tT 1 [4]]
def aoA:au:=aD Pg Tryz.f120 aq8 aX
def SY:PT (List RV):=pRs [pR true [rD (dI .i64),rD (dI .i64),rD (dI .i64),rD (dI .i64)]]
def wx {β:Type}(g:List RV->β):I4 β:=SY.unc g
abbrev fU:Type 1:=(α:Type)->(Op α)->Op α
def LV (α:Type)(k1:Op α):Op α:=
 k1
def jJ:fU:=sld LV
def OS (v:fU)(α:Type)(k:RT α):Int->Int->Op α:=fun a b=>v α (wx k a a b b)
theorem aer:al Pg 120 12 ⟨ed,OS jJ⟩:=iP ek0 aoA (ah Tryz.func120 (by kernel_rfl)) bw fun _ _=>by kernel_rfl
def an2:TG:=[tT 0 [1],tT 1 [2]]
def amB:au:=aD Pg Tryz.f119 an2 aX
def OU (α:Type)(a b:Int)(k1:Int->Op α):Op α:=
 k1 (Int.fdiv (w64 (a+b)) (2 ^ 1))
def eK:dz:=sld OU
def Qe (v:dz)(α:Type)(k:RT α):Int->Int->Op α:=fun a b=>v α a b (fun c=>bv k c)
theorem afL:al Pg 119 9 ⟨bB,Qe eK⟩:=iP ek0 amB (ah Tryz.func119 (by kernel_rfl)) abg fun _ _=>by kernel_rfl
def asL:SG:=[(6,iT),(9,iT),(13,iT),(16,iT)]
def ate:TG:=[tT 0 [2,3,4],tT 1 [4]]
def asE:au:=aD Pg Tryz.f42 ate aX
def Zo:PT (List RV):=pRs [pR true [rD (dI .i64),rD (dI .i64)]]
def de {β:Type}(g:List RV->β):Int->Int->β:=Zo.unc g
abbrev kK:Type 1:=(α:Type)->Int->Int->Int->Int->(Int->Int->Op α)->Op α
def ZR (α:Type)(a b c d:Int)(k1:Int->Int->Op α):Op α:=
 k1 (if (w64 ((w64 (1048576 - b)) - d)) > 0 then (w64 ((w64 (1048576 - b)) - d)) else 0) (if (w64 ((w64 (1048576 - a)) - c)) > 0 then (w64 ((w64 (1048576 - a)) - c)) else 0)
def xb:kK:=sld ZR
def kN:PT (List DV):=pA [pV true [(dI .i64),(dI .i64)],pV true [(dI .i64),(dI .i64)]]
def Ul (v:kK)(α:Type)(k:RT α):I4 (Op α):=fun a b c d=>v α a b c d (fun e g=>de k e g)
theorem ajT:al Pg 42 20 ⟨kN,Ul xb⟩:=iP ek0 asE (ah Tryz.func42 (by kernel_rfl)) asL fun _ _=>by kernel_rfl
def akV:SG:=[(4,iT),(7,iT)]
def asw:TG:=[tT 0 [1,2],tT 1 [2]]
def arJ:au:=aD Pg Tryz.f38 asw aX
abbrev kU:Type 1:=(α:Type)->Int->Int->(Int->Int->Op α)->Op α
def abf (α:Type)(a b:Int)(k1:Int->Int->Op α):Op α:=
 k1 (if 1048576 < a then 1048576 else a) (if 1048576 < b then 1048576 else b)
def C2:kU:=sld abf
def U3 (v:kU)(α:Type)(k:RT α):Int->Int->Op α:=fun a b=>v α a b (fun c d=>de k c d)
theorem ajA:al Pg 38 10 ⟨bB,U3 C2⟩:=iP ek0 arJ (ah Tryz.func38 (by kernel_rfl)) akV fun _ _=>by kernel_rfl
def anp:TG:=[tT 0 [0],tT 1 [0,3],tT 2 [0,3,7],tT 3 [0,3],tT 4 [2]]
def aqu:TG:=[tT 2 [0,3]]
def MM:au:=aD Pg Tryz.f215 anp aqu
def sS:OT:=tdC (ag.sub [1,1,0,0] (emb MM))
def jk:PT St:=pS [sI 0,sI 3] []
def gB {β:Type}(g:St->β):Int->Int->β:=jk.unc g
def WC:PT St:=pS [sI 0,sI 3,sY 7 dB] []
def ss {β:Type}(g:St->β):Int->Int->Bool->β:=WC.unc g
def tM:ag:=ag.sub [1,1,0,0,0] (emb MM)
def nj (α:Type)(b a:Int)(kn:Int->Op α)(k1:Int->Bool->Op α):Op α:=
 gK (decide (0<=a)) (cK (decide ((w64 (1048576*2 ^ (min (Int.toNat a) 64))) < b))
 (kn (w64 (a+1)))
 (k1 a (decide ((w64 (1048576*2 ^ (min (Int.toNat a) 64))) < b))))
def lG (α:Type)(a:Int)(k1:Int->Bool->Op α):Nat->Int->Op α
 | 0,_=>none
 | n+1,b=>nj α a b (lG α a k1 n) k1
def DW (α:Type)(a:Int)(k1:Int->Bool->Op α)(b:Int):Op α:=lG α a k1 aN b
abbrev i8:Type 1:=(α:Type)->Int->(Int->Bool->Op α)->Int->Op α
def so:i8:=sld DW
def Hb (v:i8)(α:Type)(K:KT α):Int->Int->Op α:=fun a b=>v α a (fun c d=>ss (K (.exit 0)) a c d) b
theorem ZN (α:Type)(K:KT α)(Kn:SK α)(a b:Int):gB (fun σ=>aF Pg Ek0 bw tM (di (fun σ=>bR sS σ Kn) K) σ) a b=nj α a b (fun b=>gB Kn a b) (fun c d=>ss (K (.exit 0)) a c d):=by kernel_rfl
theorem UZ (α:Type)(K:KT α):∀ (n:Nat) (a b:Int),lG α a (fun c d=>ss (K (.exit 0)) a c d) n b=gB (aS (aF Pg Ek0 bw tM) sS K n) a b:=by
 intro n
 induction n with
 | zero=>intros;rfl
 | succ n ih=>intro a b;exact (congrArg (fun kn=>nj α a b kn (fun c d=>ss (K (.exit 0)) a c d)) (funext fun b=>ih a b)).trans (ZN α K (aS (aF Pg Ek0 bw tM) sS K n) a b).symm
theorem ZX:∀ (α:Type) (K:KT α),Hb so α K=jk.unc fun σ=>aS (aF Pg Ek0 bw tM) sS K aN σ:=bM (fun α K=>funext fun a=>funext fun b=>UZ α K aN a b)
abbrev dw:Type 1:=(α:Type)->Int->(Int->Op α)->Op α
def QJ (α:Type)(a:Int)(k1:Int->Op α):Op α:=
 so α a
 (fun b c=>k1 b) 0
def vd:dw:=sld QJ
def bC:PT (List DV):=pA [vI]
def Ru (v:dw)(α:Type)(k:RT α):Int->Op α:=fun a=>v α a (fun b=>bv k b)
def acj:ag:=(ag.put (.m [⟨jk,Hb so⟩]) [1,1,0,0] (emb MM))
theorem afD:al Pg 215 11 ⟨bC,Ru vd⟩:=iZ ek0 (ah Tryz.func215 (by kernel_rfl)) bw acj ((aw _ _).trans (aG _)) (bJ (td:=sS) (by kernel_rfl) (aM MM) ⟨ZX,TT⟩) fun _ _=>by kernel_rfl
def at6:TG:=[tT 0 [1,2],tT 1 [2]]
def atA:au:=aD Pg Tryz.f37 at6 aX
def XX (α:Type)(a b:Int)(k1:Int->Int->Op α):Op α:=
 k1 (if a > 0 then a else 0) (if b > 0 then b else 0)
def uZ:kU:=sld XX
def WU (v:kU)(α:Type)(k:RT α):Int->Int->Op α:=fun a b=>v α a b (fun c d=>de k c d)
theorem als:al Pg 37 10 ⟨bB,WU uZ⟩:=iP ek0 atA (ah Tryz.func37 (by kernel_rfl)) akV fun _ _=>by kernel_rfl
def aoN:TG:=[tT 0 [0],tT 1 [0]]
def anc:au:=aD Pg Tryz.f124 aoN aX
def Ss:PT (List RV):=pRs [pR true [rD (dX .f64),rD (dI .i64)]]
def CJ {β:Type}(g:List RV->β):Nat->Nat->Int->β:=Ss.unc g
def Rq (α:Type)(k1:Op α):Op α:=
 k1
def Aw:fU:=sld Rq
def yp:PT (List DV):=pA []
def LB (v:fU)(α:Type)(k:RT α):Op α:=v α (CJ k 0 0 0)
theorem aeE:al Pg 124 2 ⟨yp,LB Aw⟩:=iP ek0 anc (ah Tryz.func124 (by kernel_rfl)) bw fun _ _=>by kernel_rfl
def aq1:TG:=[tT 0 [0],tT 1 [0]]
def aor:au:=aD Pg Tryz.f123 aq1 aX
def EZ (α:Type)(k1:Op α):Op α:=
 k1
def mr:fU:=sld EZ
def Qz (v:fU)(α:Type)(k:RT α):Op α:=v α (CJ k 4697254411347427328 0 0)
theorem abU:al Pg 123 2 ⟨yp,Qz mr⟩:=iP ek0 aor (ah Tryz.func123 (by kernel_rfl)) bw fun _ _=>by kernel_rfl
def an3:TG:=[tT 0 [1,2],tT 1 [2]]
def am0:au:=aD Pg Tryz.f174 an3 aX
def LR (α:Type)(a:Int)(k1:Int->Op α):Op α:=
 k1 (w64 (0 - a))
def ED:dw:=sld LR
def O3 (v:dw)(α:Type)(k:RT α):Int->Int->Op α:=fun a b=>v α b (fun c=>de k a c)
theorem aeW:al Pg 174 9 ⟨bB,O3 ED⟩:=iP ek0 am0 (ah Tryz.func174 (by kernel_rfl)) abg fun _ _=>by kernel_rfl
def an8:SG:=[(6,iT),(10,iT)]
def amN:TG:=[tT 0 [0,1,3],tT 1 [3]]
def anu:au:=aD Pg Tryz.f133 amN aX
def Lo (α:Type)(a b:Int)(k1:Int->Int->Op α):Op α:=
 k1 (w64 (a - b)) (w64 (a+b))
def zk:kU:=sld Lo
def P5:PT (List DV):=pA [vI,pV false [(dP [(dI .i64),(dI .i64),(dI .i64)] 0)]]
def Qm (v:kU)(α:Type)(k:RT α):I4 (Op α):=fun a e g b=>v α a b (fun c d=>de k c d)
theorem acv:al Pg 133 13 ⟨P5,Qm zk⟩:=iP ek0 anu (ah Tryz.func133 (by kernel_rfl)) an8 fun _ _=>by kernel_rfl
def ao0:TG:=[tT 0 [0,2],tT 1 [0,2,4],tT 2 [0],tT 3 [0,2],tT 4 [0,2,8],tT 5 [0,2],tT 6 [0,2],tT 7 [0,2,14],tT 8 [0,2],tT 9 [0,2],tT 10 [2]]
def Iy:au:=aD Pg Tryz.f216 ao0 aX
def jm:PT St:=pS [sY 0 (dI .u64),sI 2] []
def oA {β:Type}(g:St->β):Int->Int->β:=jm.unc g
def AJ:PT St:=pS [sY 0 (dI .u64),sI 2,sY 4 dB] []
def T6 {β:Type}(g:St->β):Int->Int->Bool->β:=AJ.unc g
def zI:PT St:=pS [sY 0 (dI .u64),sI 2,sY 8 dB] []
def Jd {β:Type}(g:St->β):Int->Int->Bool->β:=zI.unc g
def abn:PT St:=pS [sY 0 (dI .u64),sI 2,sY 14 dB] []
def GM {β:Type}(g:St->β):Int->Int->Bool->β:=abn.unc g
def DO:ag:=ag.sub [1,1,1,0] (emb Iy)
abbrev gi:Type 1:=(α:Type)->Int->Int->(Int->Int->Op α)->(Bool->Op α)->Op α
def v7 (α:Type)(a b:Int)(k1:Int->Int->Op α)(k2:Bool->Op α):Op α:=
 cK (decide (256<=a))
 (k1 (Int.fdiv a (2 ^ 8)) (w64 (b+8)))
 (k2 (decide (256<=a)))
def ir:gi:=sld v7
def Hk (v:gi)(α:Type)(K:KT α):Int->Int->Op α:=fun b c=>v α b c (fun a d=>oA (K .normal) a d) (fun a=>GM (K .normal) b c a)
theorem Zj:∀ (α:Type) (K:KT α),Hk ir α K=jm.unc fun σ=>aF Pg Ek0 bw DO K σ:=bM (fun α K=>by kernel_rfl)
def vr (α:Type)(a b:Int)(k1:Int->Int->Op α)(k2:Bool->Op α):Op α:=
 cK (decide (256<=a))
 (k1 (Int.fdiv a (2 ^ 8)) (w64 (b+8)))
 (k2 (decide (256<=a)))
def iu:gi:=sld vr
def Hr (v:gi)(α:Type)(K:KT α):Int->Int->Bool->Op α:=fun b c e=>v α b c (fun a d=>oA (K .normal) a d) (fun a=>GM (K .normal) b c a)
theorem Tv:∀ (α:Type) (K:KT α),Hr iu α K=zI.unc fun σ=>aF Pg Ek0 bw DO K σ:=bM (fun α K=>by kernel_rfl)
def DD:ag:=ag.sub [1,1,0] (emb Iy)
def wy (α:Type)(a b:Int)(k1:Int->Int->Op α)(k2:Bool->Op α):Op α:=
 cK (decide (65536<=a))
 (k1 (Int.fdiv a (2 ^ 16)) (w64 (b+16)))
 (k2 (decide (65536<=a)))
def jj:gi:=sld wy
def He (v:gi)(α:Type)(K:KT α):Int->Int->Op α:=fun b c=>v α b c (fun a d=>oA (K .normal) a d) (fun a=>Jd (K .normal) b c a)
theorem ZT:∀ (α:Type) (K:KT α),He jj α K=jm.unc fun σ=>aF Pg Ek0 bw DD K σ:=bM (fun α K=>by kernel_rfl)
def vG (α:Type)(a b:Int)(k1:Int->Int->Op α)(k2:Bool->Op α):Op α:=
 cK (decide (65536<=a))
 (k1 (Int.fdiv a (2 ^ 16)) (w64 (b+16)))
 (k2 (decide (65536<=a)))
def jE:gi:=sld vG
def Jl (v:gi)(α:Type)(K:KT α):Int->Int->Bool->Op α:=fun b c e=>v α b c (fun a d=>oA (K .normal) a d) (fun a=>Jd (K .normal) b c a)
theorem Yq:∀ (α:Type) (K:KT α),Jl jE α K=AJ.unc fun σ=>aF Pg Ek0 bw DD K σ:=bM (fun α K=>by kernel_rfl)
def Zt:ag:=ag.sub [1,0] (emb Iy)
abbrev oX:Type 1:=(α:Type)->Int->(Int->Op α)->(Bool->Op α)->Op α
def vx (α:Type)(a:Int)(k1:Int->Op α)(k2:Bool->Op α):Op α:=
 cK (decide (4294967296<=a))
 (k1 (Int.fdiv a (2 ^ 32)))
 (k2 (decide (4294967296<=a)))
def jI:oX:=sld vx
def Ie (v:oX)(α:Type)(K:KT α):Int->Int->Op α:=fun b c=>v α b (fun a=>oA (K .normal) a 32) (fun a=>T6 (K .normal) b c a)
theorem X4:∀ (α:Type) (K:KT α),Ie jI α K=jm.unc fun σ=>aF Pg Ek0 bw Zt K σ:=bM (fun α K=>by kernel_rfl)
def iO (α:Type)(a:Int)(k1:Int->Op α):Op α:=
 jI α a
 (fun b=>jj α b 32
 (fun c d=>ir α c d
 (fun h i=>m9 (⟨#[0,1,2,2,3,3,3,3,4,4,4,4,4,4,4,4,5,5,5,5,5,5,5,5,5,5,5,5,5,5,5,5,6,6,6,6,6,6,6,6,6,6,6,6,6,6,6,6,6,6,6,6,6,6,6,6,6,6,6,6,6,6,6,6,7,7,7,7,7,7,7,7,7,7,7,7,7,7,7,7,7,7,7,7,7,7,7,7,7,7,7,7,7,7,7,7,7,7,7,7,7,7,7,7,7,7,7,7,7,7,7,7,7,7,7,7,7,7,7,7,7,7,7,7,7,7,7,7,8,8,8,8,8,8,8,8,8,8,8,8,8,8,8,8,8,8,8,8,8,8,8,8,8,8,8,8,8,8,8,8,8,8,8,8,8,8,8,8,8,8,8,8,8,8,8,8,8,8,8,8,8,8,8,8,8,8,8,8,8,8,8,8,8,8,8,8,8,8,8,8,8,8,8,8,8,8,8,8,8,8,8,8,8,8,8,8,8,8,8,8,8,8,8,8,8,8,8,8,8,8,8,8,8,8,8,8,8,8,8,8,8,8,8,8,8,8,8,8,8,8,8,8,8,8,8,8]⟩:BA) (IntKind.wrap .u8 (h))
 (fun j=>k1 (w64 (i+(w64 (((UInt8.toNat j:Nat):Int)))))))
 (fun D=>m9 (⟨#[0,1,2,2,3,3,3,3,4,4,4,4,4,4,4,4,5,5,5,5,5,5,5,5,5,5,5,5,5,5,5,5,6,6,6,6,6,6,6,6,6,6,6,6,6,6,6,6,6,6,6,6,6,6,6,6,6,6,6,6,6,6,6,6,7,7,7,7,7,7,7,7,7,7,7,7,7,7,7,7,7,7,7,7,7,7,7,7,7,7,7,7,7,7,7,7,7,7,7,7,7,7,7,7,7,7,7,7,7,7,7,7,7,7,7,7,7,7,7,7,7,7,7,7,7,7,7,7,8,8,8,8,8,8,8,8,8,8,8,8,8,8,8,8,8,8,8,8,8,8,8,8,8,8,8,8,8,8,8,8,8,8,8,8,8,8,8,8,8,8,8,8,8,8,8,8,8,8,8,8,8,8,8,8,8,8,8,8,8,8,8,8,8,8,8,8,8,8,8,8,8,8,8,8,8,8,8,8,8,8,8,8,8,8,8,8,8,8,8,8,8,8,8,8,8,8,8,8,8,8,8,8,8,8,8,8,8,8,8,8,8,8,8,8,8,8,8,8,8,8,8,8,8,8,8,8]⟩:BA) (IntKind.wrap .u8 (c))
 (fun l=>k1 (w64 (d+(w64 (((UInt8.toNat l:Nat):Int))))))))
 (fun F=>iu α b 32
 (fun m o=>m9 (⟨#[0,1,2,2,3,3,3,3,4,4,4,4,4,4,4,4,5,5,5,5,5,5,5,5,5,5,5,5,5,5,5,5,6,6,6,6,6,6,6,6,6,6,6,6,6,6,6,6,6,6,6,6,6,6,6,6,6,6,6,6,6,6,6,6,7,7,7,7,7,7,7,7,7,7,7,7,7,7,7,7,7,7,7,7,7,7,7,7,7,7,7,7,7,7,7,7,7,7,7,7,7,7,7,7,7,7,7,7,7,7,7,7,7,7,7,7,7,7,7,7,7,7,7,7,7,7,7,7,8,8,8,8,8,8,8,8,8,8,8,8,8,8,8,8,8,8,8,8,8,8,8,8,8,8,8,8,8,8,8,8,8,8,8,8,8,8,8,8,8,8,8,8,8,8,8,8,8,8,8,8,8,8,8,8,8,8,8,8,8,8,8,8,8,8,8,8,8,8,8,8,8,8,8,8,8,8,8,8,8,8,8,8,8,8,8,8,8,8,8,8,8,8,8,8,8,8,8,8,8,8,8,8,8,8,8,8,8,8,8,8,8,8,8,8,8,8,8,8,8,8,8,8,8,8,8,8]⟩:BA) (IntKind.wrap .u8 (m))
 (fun p=>k1 (w64 (o+(w64 (((UInt8.toNat p:Nat):Int)))))))
 (fun G=>m9 (⟨#[0,1,2,2,3,3,3,3,4,4,4,4,4,4,4,4,5,5,5,5,5,5,5,5,5,5,5,5,5,5,5,5,6,6,6,6,6,6,6,6,6,6,6,6,6,6,6,6,6,6,6,6,6,6,6,6,6,6,6,6,6,6,6,6,7,7,7,7,7,7,7,7,7,7,7,7,7,7,7,7,7,7,7,7,7,7,7,7,7,7,7,7,7,7,7,7,7,7,7,7,7,7,7,7,7,7,7,7,7,7,7,7,7,7,7,7,7,7,7,7,7,7,7,7,7,7,7,7,8,8,8,8,8,8,8,8,8,8,8,8,8,8,8,8,8,8,8,8,8,8,8,8,8,8,8,8,8,8,8,8,8,8,8,8,8,8,8,8,8,8,8,8,8,8,8,8,8,8,8,8,8,8,8,8,8,8,8,8,8,8,8,8,8,8,8,8,8,8,8,8,8,8,8,8,8,8,8,8,8,8,8,8,8,8,8,8,8,8,8,8,8,8,8,8,8,8,8,8,8,8,8,8,8,8,8,8,8,8,8,8,8,8,8,8,8,8,8,8,8,8,8,8,8,8,8,8]⟩:BA) (IntKind.wrap .u8 (b))
 (fun q=>k1 (w64 (32+(w64 (((UInt8.toNat q:Nat):Int)))))))))
 (fun H=>jE α a 0
 (fun e g=>ir α e g
 (fun r s=>m9 (⟨#[0,1,2,2,3,3,3,3,4,4,4,4,4,4,4,4,5,5,5,5,5,5,5,5,5,5,5,5,5,5,5,5,6,6,6,6,6,6,6,6,6,6,6,6,6,6,6,6,6,6,6,6,6,6,6,6,6,6,6,6,6,6,6,6,7,7,7,7,7,7,7,7,7,7,7,7,7,7,7,7,7,7,7,7,7,7,7,7,7,7,7,7,7,7,7,7,7,7,7,7,7,7,7,7,7,7,7,7,7,7,7,7,7,7,7,7,7,7,7,7,7,7,7,7,7,7,7,7,8,8,8,8,8,8,8,8,8,8,8,8,8,8,8,8,8,8,8,8,8,8,8,8,8,8,8,8,8,8,8,8,8,8,8,8,8,8,8,8,8,8,8,8,8,8,8,8,8,8,8,8,8,8,8,8,8,8,8,8,8,8,8,8,8,8,8,8,8,8,8,8,8,8,8,8,8,8,8,8,8,8,8,8,8,8,8,8,8,8,8,8,8,8,8,8,8,8,8,8,8,8,8,8,8,8,8,8,8,8,8,8,8,8,8,8,8,8,8,8,8,8,8,8,8,8,8,8]⟩:BA) (IntKind.wrap .u8 (r))
 (fun t=>k1 (w64 (s+(w64 (((UInt8.toNat t:Nat):Int)))))))
 (fun I=>m9 (⟨#[0,1,2,2,3,3,3,3,4,4,4,4,4,4,4,4,5,5,5,5,5,5,5,5,5,5,5,5,5,5,5,5,6,6,6,6,6,6,6,6,6,6,6,6,6,6,6,6,6,6,6,6,6,6,6,6,6,6,6,6,6,6,6,6,7,7,7,7,7,7,7,7,7,7,7,7,7,7,7,7,7,7,7,7,7,7,7,7,7,7,7,7,7,7,7,7,7,7,7,7,7,7,7,7,7,7,7,7,7,7,7,7,7,7,7,7,7,7,7,7,7,7,7,7,7,7,7,7,8,8,8,8,8,8,8,8,8,8,8,8,8,8,8,8,8,8,8,8,8,8,8,8,8,8,8,8,8,8,8,8,8,8,8,8,8,8,8,8,8,8,8,8,8,8,8,8,8,8,8,8,8,8,8,8,8,8,8,8,8,8,8,8,8,8,8,8,8,8,8,8,8,8,8,8,8,8,8,8,8,8,8,8,8,8,8,8,8,8,8,8,8,8,8,8,8,8,8,8,8,8,8,8,8,8,8,8,8,8,8,8,8,8,8,8,8,8,8,8,8,8,8,8,8,8,8,8]⟩:BA) (IntKind.wrap .u8 (e))
 (fun w=>k1 (w64 (g+(w64 (((UInt8.toNat w:Nat):Int))))))))
 (fun J=>iu α a 0
 (fun z A=>m9 (⟨#[0,1,2,2,3,3,3,3,4,4,4,4,4,4,4,4,5,5,5,5,5,5,5,5,5,5,5,5,5,5,5,5,6,6,6,6,6,6,6,6,6,6,6,6,6,6,6,6,6,6,6,6,6,6,6,6,6,6,6,6,6,6,6,6,7,7,7,7,7,7,7,7,7,7,7,7,7,7,7,7,7,7,7,7,7,7,7,7,7,7,7,7,7,7,7,7,7,7,7,7,7,7,7,7,7,7,7,7,7,7,7,7,7,7,7,7,7,7,7,7,7,7,7,7,7,7,7,7,8,8,8,8,8,8,8,8,8,8,8,8,8,8,8,8,8,8,8,8,8,8,8,8,8,8,8,8,8,8,8,8,8,8,8,8,8,8,8,8,8,8,8,8,8,8,8,8,8,8,8,8,8,8,8,8,8,8,8,8,8,8,8,8,8,8,8,8,8,8,8,8,8,8,8,8,8,8,8,8,8,8,8,8,8,8,8,8,8,8,8,8,8,8,8,8,8,8,8,8,8,8,8,8,8,8,8,8,8,8,8,8,8,8,8,8,8,8,8,8,8,8,8,8,8,8,8,8]⟩:BA) (IntKind.wrap .u8 (z))
 (fun B=>k1 (w64 (A+(w64 (((UInt8.toNat B:Nat):Int)))))))
 (fun L=>m9 (⟨#[0,1,2,2,3,3,3,3,4,4,4,4,4,4,4,4,5,5,5,5,5,5,5,5,5,5,5,5,5,5,5,5,6,6,6,6,6,6,6,6,6,6,6,6,6,6,6,6,6,6,6,6,6,6,6,6,6,6,6,6,6,6,6,6,7,7,7,7,7,7,7,7,7,7,7,7,7,7,7,7,7,7,7,7,7,7,7,7,7,7,7,7,7,7,7,7,7,7,7,7,7,7,7,7,7,7,7,7,7,7,7,7,7,7,7,7,7,7,7,7,7,7,7,7,7,7,7,7,8,8,8,8,8,8,8,8,8,8,8,8,8,8,8,8,8,8,8,8,8,8,8,8,8,8,8,8,8,8,8,8,8,8,8,8,8,8,8,8,8,8,8,8,8,8,8,8,8,8,8,8,8,8,8,8,8,8,8,8,8,8,8,8,8,8,8,8,8,8,8,8,8,8,8,8,8,8,8,8,8,8,8,8,8,8,8,8,8,8,8,8,8,8,8,8,8,8,8,8,8,8,8,8,8,8,8,8,8,8,8,8,8,8,8,8,8,8,8,8,8,8,8,8,8,8,8,8]⟩:BA) (IntKind.wrap .u8 (a))
 (fun C=>k1 (w64 (0+(w64 (((UInt8.toNat C:Nat):Int)))))))))
def gz:dw:=sld iO
def yR:PT (List DV):=pA [pV false [(dI .u64)]]
def Oj (v:dw)(α:Type)(k:RT α):Int->Op α:=fun a=>v α a (fun b=>bv k b)
def ae0:ag:=(ag.put (.m [⟨jm,Ie jI⟩]) [1] (ag.put (.m [⟨jm,He jj⟩,⟨AJ,Jl jE⟩]) [1,1] (ag.put (.m [⟨jm,Hk ir⟩,⟨zI,Hr iu⟩]) [1,1,1] (emb Iy))))
theorem acQ:al Pg 216 25 ⟨yR,Oj gz⟩:=iZ ek0 (ah Tryz.func216 (by kernel_rfl)) bw ae0 ((aw _ _).trans ((aw _ _).trans ((aw _ _).trans (aG _)))) (aY (by kernel_rfl) (aY (by kernel_rfl) (aY (by kernel_rfl) (aM Iy) ⟨Zj,Tv,TT⟩) ⟨ZT,Yq,TT⟩) ⟨X4,TT⟩) fun _ _=>by kernel_rfl
def aps:TG:=[tT 0 [0,1],tT 1 [0,1,6],tT 2 [0,1,6,7],tT 3 [0,1,6,7,8],tT 4 [0,1,6,7,8,9],tT 5 [0,1,6,7,8,9,10],tT 6 [0,1,6,7,9,11],tT 7 [0,1,6,7,9,11,12],tT 8 [0,1,6,7,9,12,13],tT 9 [0,1,7,9,12,13],tT 10 [0,1,4],tT 11 [4,5]]
def amV:au:=aD Pg Tryz.f184 aps aX
def Rz:PT (List RV):=pRs [pR false [rD (dI .u64)],pR false [rD (dI .u64)]]
def D1 {β:Type}(g:List RV->β):Int->Int->β:=Rz.unc g
def Ny (α:Type)(a b:Int)(k1:Int->Int->Op α):Op α:=
 k1 (IntKind.wrap .u64 ((IntKind.wrap .u64 ((IntKind.wrap .u64 ((Int.fdiv a (2 ^ 32))*(Int.fdiv b (2 ^ 32))))+(Int.fdiv (IntKind.wrap .u64 ((IntKind.wrap .u64 ((Int.fdiv a (2 ^ 32))*(ml .u64 b 4294967295)))+(Int.fdiv (IntKind.wrap .u64 ((ml .u64 a 4294967295)*(ml .u64 b 4294967295))) (2 ^ 32)))) (2 ^ 32))))+(Int.fdiv (IntKind.wrap .u64 ((ml .u64 (IntKind.wrap .u64 ((IntKind.wrap .u64 ((Int.fdiv a (2 ^ 32))*(ml .u64 b 4294967295)))+(Int.fdiv (IntKind.wrap .u64 ((ml .u64 a 4294967295)*(ml .u64 b 4294967295))) (2 ^ 32)))) 4294967295)+(IntKind.wrap .u64 ((ml .u64 a 4294967295)*(Int.fdiv b (2 ^ 32)))))) (2 ^ 32)))) (IntKind.wrap .u64 (a*b))
def wq:kU:=sld Ny
def O5:PT (List DV):=pA [pV false [(dI .u64)],pV false [(dI .u64)]]
def O8 (v:kU)(α:Type)(k:RT α):Int->Int->Op α:=fun a b=>v α a b (fun c d=>D1 k c d)
theorem acB:al Pg 184 51 ⟨O5,O8 wq⟩:=iP ek0 amV (ah Tryz.func184 (by kernel_rfl)) bw fun _ _=>by kernel_rfl
def anH:TG:=[tT 0 [0],tT 1 [2]]
def anK:au:=aD Pg Tryz.f142 anH aX
def QC (α:Type)(a:Int)(k1:Int->Op α):Op α:=
 k1 (if (w64 (0 - a)) > a then (w64 (0 - a)) else a)
def nW:dw:=sld QC
def MR (v:dw)(α:Type)(k:RT α):Int->Op α:=fun a=>v α a (fun b=>bv k b)
theorem ad0:al Pg 142 7 ⟨bC,MR nW⟩:=iP ek0 anK (ah Tryz.func142 (by kernel_rfl)) bw fun _ _=>by kernel_rfl
def aiG:SG:=[(6,iT),(8,iT),(11,iT),(13,iT)]
def apv:TG:=[tT 0 [2,3,4],tT 1 [4]]
def apg:au:=aD Pg Tryz.f178 apv aX
def Me (α:Type)(a b c d:Int)(k1:Int->Int->Op α):Op α:=
 k1 (w64 (a - c)) (w64 (b - d))
def EG:kK:=sld Me
def MX (v:kK)(α:Type)(k:RT α):I4 (Op α):=fun a b c d=>v α a b c d (fun e g=>de k e g)
theorem aeU:al Pg 178 16 ⟨kN,MX EG⟩:=iP ek0 apg (ah Tryz.func178 (by kernel_rfl)) aiG fun _ _=>by kernel_rfl
def aqO:TG:=[tT 0 [0],tT 1 [2]]
def am9:au:=aD Pg Tryz.f183 aqO aX
def SH:PT (List RV):=pRs [pR false [rD (dF .f64)]]
def vL {β:Type}(g:List RV->β):Nat->β:=SH.unc g
abbrev yt:Type 1:=(α:Type)->Nat->(Nat->Op α)->Op α
def NP (α:Type)(a:Nat)(k1:Nat->Op α):Op α:=
 flK ((FloatKind.format .f64).sqrt a)
 (fun b=>k1 b)
def F8:yt:=sld NP
def kw:PT (List DV):=pA [pV false [(dF .f64)]]
def PK (v:yt)(α:Type)(k:RT α):Nat->Op α:=fun a=>v α a (fun b=>vL k b)
theorem acw:al Pg 183 5 ⟨kw,PK F8⟩:=iP ek0 am9 (ah Tryz.func183 (by kernel_rfl)) bw fun _ _=>by kernel_rfl
def aof:SG:=[(4,iT),(6,iT),(9,iT),(11,iT)]
def aqt:TG:=[tT 0 [1],tT 1 [2]]
def apO:au:=aD Pg Tryz.f175 aqt aX
def s9 (α:Type)(a b:Int)(k1:Int->Op α):Op α:=
 k1 (w64 ((w64 (a*a))+(w64 (b*b))))
def jw:dz:=sld s9
def MC (v:dz)(α:Type)(k:RT α):Int->Int->Op α:=fun a b=>v α a b (fun c=>bv k c)
theorem aec:al Pg 175 14 ⟨bB,MC jw⟩:=iP ek0 apO (ah Tryz.func175 (by kernel_rfl)) aof fun _ _=>by kernel_rfl
def apb:SG:=[(6,iT),(8,iT),(11,iT),(13,iT),(17,iT),(19,iT),(22,iT),(24,iT)]
def anE:TG:=[tT 0 [2,3,4],tT 1 [4]]
def aqI:au:=aD Pg Tryz.f170 anE aX
def FY (α:Type)(a b c d:Int)(k1:Int->Int->Op α):Op α:=
 k1 (w64 ((w64 (a*c)) - (w64 (b*d)))) (w64 ((w64 (a*d))+(w64 (b*c))))
def vi:kK:=sld FY
def LC (v:kK)(α:Type)(k:RT α):I4 (Op α):=fun a b c d=>v α a b c d (fun e g=>de k e g)
theorem ace:al Pg 170 28 ⟨kN,LC vi⟩:=iP ek0 aqI (ah Tryz.func170 (by kernel_rfl)) apb fun _ _=>by kernel_rfl
def apw:TG:=[tT 0 [2,3,4],tT 1 [4]]
def aqg:au:=aD Pg Tryz.f168 apw aX
def Fz (α:Type)(a b c d:Int)(k1:Int->Int->Op α):Op α:=
 k1 (w64 (a+c)) (w64 (b+d))
def vX:kK:=sld Fz
def Lu (v:kK)(α:Type)(k:RT α):I4 (Op α):=fun a b c d=>v α a b c d (fun e g=>de k e g)
theorem ae5:al Pg 168 16 ⟨kN,Lu vX⟩:=iP ek0 aqg (ah Tryz.func168 (by kernel_rfl)) aiG fun _ _=>by kernel_rfl
def Hm:SG:=[(9,iT),(12,iT),(15,iS 2)]
def anO:TG:=[tT 0 [1,2,4],tT 1 [2,4,5,6],tT 2 [2,4,5,6,7],tT 3 [2,4,5,6],tT 4 [2,4,5,6],tT 5 [4]]
def aog:TG:=[tT 2 [2,4,5,6]]
def Mh:au:=aD Pg Tryz.f181 anO aog
def tD:OT:=tdC (ag.sub [1,0,1,0] (emb Mh))
def Av:PT St:=pS [sP 2,sP 4,sI 5,sI 6] [aB 2 [xI,xI],aB 4 [xI,xI]]
def zd {β:Type}(g:St->β):I6 β:=Av.unc g
def aam:PT St:=pS [sP 2,sP 4,sI 5,sI 6,sY 7 dB] [aB 2 [xI,xI],aB 4 [xI,xI]]
def t9 {β:Type}(g:St->β):Int->Int->Bool->I4 β:=aam.unc g
def tv:ag:=ag.sub [1,0,1,0,0] (emb Mh)
def nD (α:Type)(b a c d:Int)(kn:Int->Int->Int->Op α)(k1:Int->Bool->Int->Int->Op α):Op α:=
 cK (decide (a < b))
 (kn (w64 (a+1)) (w64 (0 - d)) c)
 (k1 a (decide (a < b)) c d)
def nQ (α:Type)(a:Int)(k1:Int->Bool->Int->Int->Op α):Nat->Int->Int->Int->Op α
 | 0,_,_,_=>none
 | n+1,b,c,d=>nD α a b c d (nQ α a k1 n) k1
def vM (α:Type)(a:Int)(k1:Int->Bool->Int->Int->Op α)(b c d:Int):Op α:=nQ α a k1 aN b c d
abbrev Eh:Type 1:=(α:Type)->Int->(Int->Bool->Int->Int->Op α)->Int->Int->Int->Op α
def n7:Eh:=sld vM
def G5 (v:Eh)(α:Type)(K:KT α):I6 (Op α):=fun a b c d e g=>v α a (fun h i j l=>t9 (K (.exit 0)) a h i j l e g) b c d
theorem Yd (α:Type)(K:KT α)(Kn:SK α)(a b c d e g:Int):zd (fun σ=>aF Pg Ek0 Hm tv (di (fun σ=>bR tD σ Kn) K) σ) a b c d e g=nD α a b c d (fun b c d=>zd Kn a b c d e g) (fun h i j l=>t9 (K (.exit 0)) a h i j l e g):=by kernel_rfl
theorem VJ (α:Type)(K:KT α):∀ (n:Nat) (a b c d e g:Int),nQ α a (fun h i j l=>t9 (K (.exit 0)) a h i j l e g) n b c d=zd (aS (aF Pg Ek0 Hm tv) tD K n) a b c d e g:=by
 intro n
 induction n with
 | zero=>intros;rfl
 | succ n ih=>intro a b c d e g;exact (congrArg (fun kn=>nD α a b c d kn (fun h i j l=>t9 (K (.exit 0)) a h i j l e g)) (funext fun b=>funext fun c=>funext fun d=>ih a b c d e g)).trans (Yd α K (aS (aF Pg Ek0 Hm tv) tD K n) a b c d e g).symm
theorem X2:∀ (α:Type) (K:KT α),G5 n7 α K=Av.unc fun σ=>aS (aF Pg Ek0 Hm tv) tD K aN σ:=bM (fun α K=>funext fun a=>funext fun b=>funext fun c=>funext fun d=>funext fun e=>funext fun g=>VJ α K aN a b c d e g)
abbrev pp:Type 1:=(α:Type)->Int->Int->Int->(Int->Int->Op α)->Op α
def Fx (α:Type)(a b c:Int)(k1:Int->Int->Op α):Op α:=
 n7 α c
 (fun g h d e=>k1 d e) 0 a b
def jg:pp:=sld Fx
def qc:PT (List DV):=pA [pV true [(dI .i64),(dI .i64)],vI]
def PZ (v:pp)(α:Type)(k:RT α):Int->Int->Int->Op α:=fun a b c=>v α a b c (fun d e=>de k d e)
def ad1:ag:=(ag.put (.m [⟨Av,G5 n7⟩]) [1,0,1,0] (emb Mh))
theorem agL:al Pg 181 16 ⟨qc,PZ jg⟩:=iZ ek0 (ah Tryz.func181 (by kernel_rfl)) Hm ad1 ((aw _ _).trans (aG _)) (bJ (td:=tD) (by kernel_rfl) (aM Mh) ⟨X2,TT⟩) fun _ _=>by kernel_rfl
def apN:TG:=[tT 0 [0,2],tT 1 [2]]
def apP:au:=aD Pg Tryz.f188 apN aX
abbrev Rn:Type 1:=(α:Type)->Nat->Nat->(Int->Int->Op α)->Op α
def Ow (α:Type)(a b:Nat)(k1:Int->Int->Op α):Op α:=
 ivK (f2i .f64 a .i64)
 (fun c=>ivK (f2i .f64 b .i64)
 (fun d=>k1 c d))
def Gc:Rn:=sld Ow
def Lr:PT (List DV):=pA [pV false [(dX .f64)]]
def Np (v:Rn)(α:Type)(k:RT α):Nat->Nat->Op α:=fun a b=>v α a b (fun c d=>de k c d)
theorem abJ:al Pg 188 10 ⟨Lr,Np Gc⟩:=iP ek0 apP (ah Tryz.func188 (by kernel_rfl)) bw fun _ _=>by kernel_rfl
def ane:TG:=[tT 0 [0],tT 1 [2]]
def ao1:au:=aD Pg Tryz.f187 ane aX
def GA (α:Type)(a:Nat)(k1:Nat->Op α):Op α:=
 k1 (Int.toNat (yJ .u64 ((a:Nat):Int) 9223372036854775808))
def vq:yt:=sld GA
def O4 (v:yt)(α:Type)(k:RT α):Nat->Op α:=fun a=>v α a (fun b=>vL k b)
theorem ade:al Pg 187 7 ⟨kw,O4 vq⟩:=iP ek0 ao1 (ah Tryz.func187 (by kernel_rfl)) bw fun _ _=>by kernel_rfl
def apI:TG:=[tT 0 [0],tT 1 [2],tT 2 [2]]
def apf:au:=aD Pg Tryz.f204 apI aX
def SE:PT (List RV):=pRs [pR false [rD (asa .f64)]]
def RN {β:Type}(g:List RV->β):β:=SE.unc g
abbrev P6:Type 1:=(α:Type)->Nat->(Op α)->(Nat->Op α)->Op α
def Mv (α:Type)(a:Nat)(k1:Op α)(k2:Nat->Op α):Op α:=
 cK (bA .f64 a)
 (k1)
 (k2 (nq a))
def FH:P6:=sld Mv
def Qd (v:P6)(α:Type)(k:RT α):Nat->Op α:=fun a=>v α a (RN k ) (fun b=>vL k b)
theorem acI:al Pg 204 7 ⟨kw,Qd FH⟩:=iP ek0 apf (ah Tryz.func204 (by kernel_rfl)) bw fun _ _=>by kernel_rfl
def aqW:TG:=[tT 0 [0],tT 1 [3],tT 2 [2],tT 3 [2]]
def aqJ:au:=aD Pg Tryz.f172 aqW aX
abbrev Og:Type 1:=(α:Type)->Bool->(Int->Op α)->Op α
def xZ (α:Type)(a:Bool)(k1:Int->Op α):Op α:=
 cK a
 (k1 1)
 (k1 0)
def jf:Og:=sld xZ
def OH:PT (List DV):=pA [pV false [dB]]
def Qh (v:Og)(α:Type)(k:RT α):Bool->Op α:=fun a=>v α a (fun b=>bv k b)
theorem afg:al Pg 172 4 ⟨OH,Qh jf⟩:=iP ek0 aqJ (ah Tryz.func172 (by kernel_rfl)) bw fun _ _=>by kernel_rfl
def as6:SG:=[(11,[.cpx .f64,.int .i64])]
def asf:TG:=[tT 0 [0,2,4,6],tT 1 [0,4,6],tT 2 [0,6]]
def asi:au:=aD Pg Tryz.f83 asf aX
def YD:PT (List RV):=pRs [pR true [rD (dX .f64),rD (dI .i64)],pR true [rD (dI .i64),rD (dI .i64),rD (dI .i64),rD (dI .i64),rD (dI .i64),rD (dI .i64),rD (dI .i64),rD dL,rD (dI .i64),rD (dI .i64)]]
def dq {β:Type}(g:List RV->β):Nat->Nat->Int->Int->Int->Int->Int->Int->Int->Int->ae->Int->Int->β:=YD.unc g
def kz (α:Type)(k1:Op α):Op α:=
 k1
def fI:fU:=sld kz
def Zr:PT (List DV):=pA [pV false [(dMr [(dI .i64),(dI .i64),(dI .i64),(dI .i64),(dI .i64),(dI .i64),(dI .i64),dL,(dI .i64),(dI .i64)] 0)],pV true [(dX .f64),(dI .i64)],vI]
def Xu (v:fU)(α:Type)(k:RT α):Int->Int->Int->Int->Int->Int->Int->ae->Int->Int->Nat->Nat->Int->Int->Op α:=fun q a b c d e g h i j l m o p=>v α (dq k l m o p a b c d e g h i j)
theorem akm:al Pg 83 12 ⟨Zr,Xu fI⟩:=iP ek0 asi (ah Tryz.func83 (by kernel_rfl)) as6 fun _ _=>by kernel_rfl
def apl:TG:=[tT 0 [1],tT 1 [2]]
def aq9:au:=aD Pg Tryz.f201 apl aX
def S6:PT (List RV):=pRs [pR false [rD (dX .f64)]]
def To {β:Type}(g:List RV->β):Nat->Nat->β:=S6.unc g
abbrev M4:Type 1:=(α:Type)->Int->Int->(Nat->Nat->Op α)->Op α
def QU (α:Type)(a b:Int)(k1:Nat->Nat->Op α):Op α:=
 k1 (FloatKind.nearest .f64 a) (FloatKind.nearest .f64 b)
def FL:M4:=sld QU
def Rd (v:M4)(α:Type)(k:RT α):Int->Int->Op α:=fun a b=>v α a b (fun c d=>To k c d)
theorem ad6:al Pg 201 10 ⟨bB,Rd FL⟩:=iP ek0 aq9 (ah Tryz.func201 (by kernel_rfl)) akV fun _ _=>by kernel_rfl
def atn:TG:=[tT 0 [0,1],tT 1 [0,1,5],tT 2 [5,12],tT 3 [5],tT 4 [4]]
def arF:au:=aD Pg Tryz.f88 atn aX
def Kk (α:Type)(b a:Int)(k1:Int->Op α):Op α:=
 gK (a != 0) (gK (a != 0) (cK (decide ((Int.tmod b a) < 0))
 (k1 (w64 ((w64 (Int.tdiv b a)) - 1)))
 (k1 (w64 (Int.tdiv b a)))))
def jq:dz:=sld Kk
def Yh (v:dz)(α:Type)(k:RT α):Int->Int->Op α:=fun a b=>v α a b (fun c=>bv k c)
theorem alH:al Pg 88 16 ⟨ed,Yh jq⟩:=iP ek0 arF (ah Tryz.func88 (by kernel_rfl)) bw fun _ _=>by kernel_rfl
def an4:TG:=[tT 0 [0,1,2],tT 1 [6]]
def anw:au:=aD Pg Tryz.f146 an4 aX
abbrev cW:Type 1:=(α:Type)->Int->Int->Int->(Bool->Op α)->Op α
def Ft (α:Type)(a b c:Int)(k1:Bool->Op α):Op α:=
 cK (decide (b<=a))
 (k1 (decide (a<=c)))
 (k1 false)
def kM:cW:=sld Ft
def fg:PT (List DV):=pA [vI,vI,vI]
def Ry (v:cW)(α:Type)(k:RT α):Int->Int->Int->Op α:=fun a b c=>v α a b c (fun d=>bG k d)
theorem aey:al Pg 146 15 ⟨fg,Ry kM⟩:=iP ek0 anw (ah Tryz.func146 (by kernel_rfl)) bw fun _ _=>by kernel_rfl
def atI:TG:=[tT 0 [0,1],tT 1 [4]]
def as8:au:=aD Pg Tryz.f39 atI aX
def Z1 (α:Type)(b a:Int)(k1:Int->Op α):Op α:=
 gK (a != 0) (k1 (w64 (Int.tdiv b a)))
def nU:dz:=sld Z1
def Xr (v:dz)(α:Type)(k:RT α):Int->Int->Op α:=fun a b=>v α a b (fun c=>bv k c)
theorem ajI:al Pg 39 8 ⟨ed,Xr nU⟩:=iP ek0 as8 (ah Tryz.func39 (by kernel_rfl)) bw fun _ _=>by kernel_rfl
def asq:SG:=[(14,iT),(19,iT),(27,[.sl]),(34,[.sl]),(37,iS 5),(38,iS 5),(40,iS 2),(42,iT),(48,iT),(54,iT),(61,iT)]
def atM:TG:=[tT 0 [0,1,4],tT 1 [0,1,4,7],tT 2 [0,4,5],tT 3 [0,1,4,21],tT 4 [0,4,6],tT 5 [0,4,5],tT 6 [0,4,5]]
def asF:au:=aD Pg Tryz.f82 atM aX
def WD:PT (List RV):=pRs [pR true [rD (dI .i64),rD (dI .i64)],wI,pR true [rD (dI .i64),rD (dI .i64),rD (dI .i64),rD (dI .i64),rD (dI .i64),rD (dI .i64),rD (dI .i64),rD dL,rD (dI .i64),rD (dI .i64)]]
def Wv {β:Type}(g:List RV->β):Int->Int->Int->Int->Int->Int->Int->Int->Int->Int->ae->Int->Int->β:=WD.unc g
abbrev Uf:Type 1:=(α:Type)->Int->ae->Int->Int->Int->(Int->Int->Int->Op α)->Op α
def Xo (α:Type)(b:Int)(c:ae)(d e a:Int)(k1:Int->Int->Int->Op α):Op α:=
 cK (a == 0)
 (k1 b b 0)
 (cK (decide (a<=((List.length c:Nat):Int)))
 (gq c (w64 (a - 1)) [.int .i64,.int .i64,.int .i64,.int .i64,.int .i64]
 (fun g h j l i=>k1 g h i))
 (k1 d d e))
def An:Uf:=sld Xo
def kQ:PT (List DV):=pA [pV false [(dMr [(dI .i64),(dI .i64),(dI .i64),(dI .i64),(dI .i64),(dI .i64),(dI .i64),dL,(dI .i64),(dI .i64)] 0)],vI]
def U7 (v:Uf)(α:Type)(k:RT α):Int->Int->Int->Int->Int->Int->Int->ae->Int->Int->Int->Op α:=fun e a g h i j l b c d m=>v α a b c d m (fun o p q=>Wv k o p q e a g h i j l b c d)
theorem aiK:al Pg 82 62 ⟨kQ,U7 An⟩:=iP ek0 asF (ah Tryz.func82 (by kernel_rfl)) asq fun _ _=>by kernel_rfl
def asp:SG:=[(8,iT),(10,iS 2),(12,iT),(14,iS 2),(16,[.sl]),(18,iS 2)]
def arH:TG:=[(0,⟨[3,4,5,6],true,[⟨true,6,6,30606,5⟩],[]⟩),(1,⟨[6],true,[⟨true,6,6,30606,5⟩],[]⟩)]
def asl:au:=aD Pg Tryz.f71 arH aX
def ZY:PT (List RV):=pRs [pR true [rD (dI .i64),rD (dI .i64),rD (dI .i64),rD (dI .i64),rD (dI .i64),rD (dI .i64),rD dL,rD (dI .i64),rD (dI .i64)]]
def UC {β:Type}(g:List RV->β):Int->Int->Int->Int->Int->Int->ae->Int->Int->β:=ZY.unc g
def Kx (α:Type)(k1:Op α):Op α:=
 k1
def CY:fU:=sld Kx
def Xv:PT (List DV):=pA [pV true [dL,dL,(dI .i64),(dI .i64)],pV true [(dI .i64),(dI .i64),(dI .i64),(dI .i64),(dI .i64),(dI .i64),(dI .i64),(dI .i64),(dI .i64)],pV true [(dI .i64),(dI .i64),(dI .i64),(dI .i64)]]
def Up (v:fU)(α:Type)(k:RT α):ae->ae->I15 (Op α):=fun l a b c m d e o p q r s t g h i j=>v α (UC k e i j d g h a b c)
theorem amo:al Pg 71 20 ⟨Xv,Up CY⟩:=iP ek0 asl (ah Tryz.func71 (by kernel_rfl)) asp fun _ _=>by kernel_rfl
def at9:SG:=[(4,iS 2),(6,iS 2)]
def at8:TG:=[tT 0 [1,2],tT 1 [2]]
def asS:au:=aD Pg Tryz.f72 at8 aX
def JU (α:Type)(k1:Op α):Op α:=
 k1
def Ec:fU:=sld JU
def wn:PT (List DV):=pA [pV true [(dI .i64),(dI .i64),(dI .i64),(dI .i64),(dI .i64),(dI .i64),(dI .i64),(dI .i64),(dI .i64)]]
def Wk (v:fU)(α:Type)(k:RT α):I9 (Op α):=fun e g h a b c d i j=>v α (wx k c d a b)
theorem ajp:al Pg 72 8 ⟨wn,Wk Ec⟩:=iP ek0 asS (ah Tryz.func72 (by kernel_rfl)) at9 fun _ _=>by kernel_rfl
def ar3:TG:=[tT 0 [0,1,2],tT 1 [6]]
def asb:au:=aD Pg Tryz.f94 ar3 aX
def V1 (α:Type)(a b c:Int)(k1:Bool->Op α):Op α:=
 cK (decide (b<=a))
 (k1 (decide (a<=c)))
 (k1 false)
def oc:cW:=sld V1
def aaA (v:cW)(α:Type)(k:RT α):Int->Int->Int->Op α:=fun a b c=>v α a b c (fun d=>bG k d)
theorem ald:al Pg 94 15 ⟨fg,aaA oc⟩:=iP ek0 asb (ah Tryz.func94 (by kernel_rfl)) bw fun _ _=>by kernel_rfl
def asu:TG:=[tT 0 [0,1],tT 1 [4]]
def atY:au:=aD Pg Tryz.f40 asu aX
def WA (α:Type)(b a:Int)(k1:Int->Op α):Op α:=
 gK (a != 0) (k1 (w64 (Int.tdiv (w64 ((w64 (b+a)) - 1)) a)))
def mT:dz:=sld WA
def Xx (v:dz)(α:Type)(k:RT α):Int->Int->Op α:=fun a b=>v α a b (fun c=>bv k c)
theorem ai5:al Pg 40 11 ⟨ed,Xx mT⟩:=iP ek0 atY (ah Tryz.func40 (by kernel_rfl)) bw fun _ _=>by kernel_rfl
def anN:TG:=[tT 0 [0,1,2],tT 1 [6]]
def ana:au:=aD Pg Tryz.f110 anN aX
def P8 (α:Type)(a b c:Int)(k1:Bool->Op α):Op α:=
 cK (decide (b<=a))
 (k1 (decide (a<=c)))
 (k1 false)
def jG:cW:=sld P8
def P1 (v:cW)(α:Type)(k:RT α):Int->Int->Int->Op α:=fun a b c=>v α a b c (fun d=>bG k d)
theorem ag7:al Pg 110 15 ⟨fg,P1 jG⟩:=iP ek0 ana (ah Tryz.func110 (by kernel_rfl)) bw fun _ _=>by kernel_rfl
def as4:TG:=[tT 0 [0,1,2],tT 1 [6]]
def auf:au:=aD Pg Tryz.f57 as4 aX
def WX (α:Type)(a b c:Int)(k1:Bool->Op α):Op α:=
 cK (decide (b<=a))
 (k1 (decide (a<=c)))
 (k1 false)
def qx:cW:=sld WX
def TF (v:cW)(α:Type)(k:RT α):Int->Int->Int->Op α:=fun a b c=>v α a b c (fun d=>bG k d)
theorem ale:al Pg 57 15 ⟨fg,TF qx⟩:=iP ek0 auf (ah Tryz.func57 (by kernel_rfl)) bw fun _ _=>by kernel_rfl
def atS:TG:=[tT 0 [0],(1,⟨[2],true,[⟨false,2,0,20002,2⟩],[]⟩)]
def atO:au:=aD Pg Tryz.f56 atS aX
def Xy:PT (List RV):=pRs [pR false [rO 2]]
def Xl {β:Type}(g:List RV->β):ae->β:=Xy.unc g
abbrev GH:Type 1:=(α:Type)->ae->(ae->Op α)->Op α
def Ug (α:Type)(a:ae)(k1:ae->Op α):Op α:=
 gK (fj 2 16 ([]:ae) a) (k1 (([]:ae)++a))
def L2:GH:=sld Ug
def wr:PT (List DV):=pA [pV false [dL]]
def aaB (v:GH)(α:Type)(k:RT α):ae->Op α:=fun a=>v α a (fun b=>Xl k b)
theorem ajd:al Pg 56 6 ⟨wr,aaB L2⟩:=iP ek0 atO (ah Tryz.func56 (by kernel_rfl)) bw fun _ _=>by kernel_rfl
def ath:TG:=[tT 0 [0],(1,⟨[2],true,[⟨false,2,0,20002,3⟩],[]⟩)]
def ati:au:=aD Pg Tryz.f55 ath aX
def ZD:PT (List RV):=pRs [pR false [rO 3]]
def UH {β:Type}(g:List RV->β):ae->β:=ZD.unc g
def aaO (α:Type)(a:ae)(k1:ae->Op α):Op α:=
 gK (fj 3 24 ([]:ae) a) (k1 (([]:ae)++a))
def Lx:GH:=sld aaO
def V3 (v:GH)(α:Type)(k:RT α):ae->Op α:=fun a=>v α a (fun b=>UH k b)
theorem alW:al Pg 55 6 ⟨wr,V3 Lx⟩:=iP ek0 ati (ah Tryz.func55 (by kernel_rfl)) bw fun _ _=>by kernel_rfl
def atr:TG:=[tT 0 [0,1,2],tT 1 [6]]
def ar1:au:=aD Pg Tryz.f18 atr aX
def J2 (α:Type)(a b c:Int)(k1:Bool->Op α):Op α:=
 cK (decide (b<=a))
 (k1 (decide (a<=c)))
 (k1 false)
def dO:cW:=sld J2
def Yx (v:cW)(α:Type)(k:RT α):Int->Int->Int->Op α:=fun a b c=>v α a b c (fun d=>bG k d)
theorem akM:al Pg 18 15 ⟨fg,Yx dO⟩:=iP ek0 ar1 (ah Tryz.func18 (by kernel_rfl)) bw fun _ _=>by kernel_rfl
def arU:SG:=[(4,[.sl]),(9,[.sl]),(14,[.sl]),(21,[.sl]),(27,[.sl])]
def atU:TG:=[tT 0 [1],tT 1 [2]]
def atq:au:=aD Pg Tryz.f54 atU aX
abbrev Eu:Type 1:=(α:Type)->ae->ae->ae->(Bool->Op α)->Op α
def Wz (α:Type)(a b c:ae)(k1:Bool->Op α):Op α:=
 cK (decide (((List.length a:Nat):Int)<=6))
 (cK (decide (((List.length b:Nat):Int)<=44))
 (k1 (decide (((List.length c:Nat):Int)<=3)))
 (k1 false))
 (cK (decide (40 < ((List.length a:Nat):Int)))
 (cK (decide (((List.length a:Nat):Int)<=42))
 (cK (decide (((List.length b:Nat):Int)<=44))
 (k1 (decide (((List.length c:Nat):Int)<=3)))
 (k1 false))
 (k1 false))
 (k1 false))
def Pz:Eu:=sld Wz
def kW:PT (List DV):=pA [pV true [dL,dL,(dI .i64),dL,(dI .i64),(dI .i64)]]
def aaP (v:Eu)(α:Type)(k:RT α):ae->ae->Int->ae->Int->Int->Op α:=fun a b e c g h=>v α a b c (fun d=>bG k d)
theorem aj8:al Pg 54 31 ⟨kW,aaP Pz⟩:=iP ek0 atq (ah Tryz.func54 (by kernel_rfl)) arU fun _ _=>by kernel_rfl
def atj:SG:=[(6,iT),(9,iT),(11,iT)]
def at4:TG:=[tT 0 [1,2],tT 1 [4]]
def atW:au:=aD Pg Tryz.f25 at4 aX
noncomputable abbrev Lk1:List bz:=⟨19,14,[⟨ed,Vt Di⟩]⟩::⟨119,9,[⟨bB,Qe eK⟩]⟩::⟨161,9,[⟨bB,M5 od⟩]⟩::⟨82,62,[⟨kQ,U7 An⟩]⟩::⟨146,15,[⟨fg,Ry kM⟩]⟩::⟨216,25,[⟨yR,Oj gz⟩]⟩::⟨178,16,[⟨kN,MX EG⟩]⟩::⟨88,16,[⟨ed,Yh jq⟩]⟩::⟨183,5,[⟨kw,PK F8⟩]⟩::⟨168,16,[⟨kN,Lu vX⟩]⟩::⟨187,7,[⟨kw,O4 vq⟩]⟩::⟨110,15,[⟨fg,P1 jG⟩]⟩::⟨94,15,[⟨fg,aaA oc⟩]⟩::⟨57,15,[⟨fg,TF qx⟩]⟩::⟨55,6,[⟨wr,V3 Lx⟩]⟩::⟨56,6,[⟨wr,aaB L2⟩]⟩::⟨54,31,[⟨kW,aaP Pz⟩]⟩::⟨18,15,[⟨fg,Yx dO⟩]⟩::⟨215,11,[⟨bC,Ru vd⟩]⟩::⟨175,14,[⟨bB,MC jw⟩]⟩::⟨181,16,[⟨qc,PZ jg⟩]⟩::⟨204,7,[⟨kw,Qd FH⟩]⟩::⟨201,10,[⟨bB,Rd FL⟩]⟩::⟨40,11,[⟨ed,Xx mT⟩]⟩::⟨184,51,[⟨O5,O8 wq⟩]⟩::⟨142,7,[⟨bC,MR nW⟩]⟩::⟨188,10,[⟨Lr,Np Gc⟩]⟩::⟨172,4,[⟨OH,Qh jf⟩]⟩::⟨174,9,[⟨bB,O3 ED⟩]⟩::⟨170,28,[⟨kN,LC vi⟩]⟩::⟨83,12,[⟨Zr,Xu fI⟩]⟩::⟨72,8,[⟨wn,Wk Ec⟩]⟩::⟨71,20,[⟨Xv,Up CY⟩]⟩::⟨133,13,[⟨P5,Qm zk⟩]⟩::⟨39,8,[⟨ed,Xr nU⟩]⟩::⟨123,2,[⟨yp,Qz mr⟩]⟩::⟨37,10,[⟨bB,WU uZ⟩]⟩::⟨124,2,[⟨yp,LB Aw⟩]⟩::⟨38,10,[⟨bB,U3 C2⟩]⟩::⟨42,20,[⟨kN,Ul xb⟩]⟩::⟨120,12,[⟨ed,OS jJ⟩]⟩::Lk0
theorem ak1:bF Lk1 fun c=>bF c.l (al Pg c.f c.nt):=⟨⟨aj6,TT⟩,⟨afL,TT⟩,⟨acu,TT⟩,⟨aiK,TT⟩,⟨aey,TT⟩,⟨acQ,TT⟩,⟨aeU,TT⟩,⟨alH,TT⟩,⟨acw,TT⟩,⟨ae5,TT⟩,⟨ade,TT⟩,⟨ag7,TT⟩,⟨ald,TT⟩,⟨ale,TT⟩,⟨alW,TT⟩,⟨ajd,TT⟩,⟨aj8,TT⟩,⟨akM,TT⟩,⟨afD,TT⟩,⟨aec,TT⟩,⟨agL,TT⟩,⟨acI,TT⟩,⟨ad6,TT⟩,⟨ai5,TT⟩,⟨acB,TT⟩,⟨ad0,TT⟩,⟨abJ,TT⟩,⟨afg,TT⟩,⟨aeW,TT⟩,⟨ace,TT⟩,⟨akm,TT⟩,⟨ajp,TT⟩,⟨amo,TT⟩,⟨acv,TT⟩,⟨ajI,TT⟩,⟨abU,TT⟩,⟨als,TT⟩,⟨aeE,TT⟩,⟨ajA,TT⟩,⟨ajT,TT⟩,⟨aer,TT⟩,ak0⟩
def Ek1:aE:=aE.ofIO Lk1 bD io0
theorem ek1:Ek1.Ok Pg:=aE.ofIO_ok aO ak1
abbrev vc:Type 1:=(α:Type)->Int->Int->Int->(Int->Op α)->Op α
def Wa (α:Type)(a b c:Int)(k1:Int->Op α):Op α:=
 Di α c (w64 ((w64 (b - a))+1))
 (fun d=>k1 (w64 (a+d)))
def wJ:vc:=sld Wa
def abC (v:vc)(α:Type)(k:RT α):Int->Int->Int->Op α:=fun a b c=>v α a b c (fun d=>bv k d)
theorem ams:al Pg 25 16 ⟨qc,abC wJ⟩:=iP ek1 atW (ah Tryz.func25 (by kernel_rfl)) atj fun _ _=>by kernel_rfl
def aoC:SG:=[(4,iS 2),(7,iT),(12,iT)]
def aoi:TG:=[tT 0 [1,2],tT 1 [1,2,3],tT 2 [2]]
def aq2:au:=aD Pg Tryz.f162 aoi aX
def Qi (α:Type)(b c:Int)(k1:Int->Int->Op α):Op α:=
 eK α b c
 (fun a=>k1 a a)
def v8:kU:=sld Qi
def Px (v:kU)(α:Type)(k:RT α):Int->Int->Op α:=fun a b=>v α a b (fun c d=>wx k a c d b)
theorem aeg:al Pg 162 15 ⟨bB,Px v8⟩:=iP ek1 aq2 (ah Tryz.func162 (by kernel_rfl)) aoC fun _ _=>by kernel_rfl
def ah3:SG:=[(6,iS 2),(9,iS 2),(19,iT),(22,iT),(26,iT),(29,iT)]
def aoP:TG:=[tT 0 [1],tT 1 [1,3,4],tT 2 [4,11],tT 3 [2],tT 4 [34],tT 5 [2],tT 6 [2]]
def VQ:au:=aD Pg Tryz.f121 aoP aX
def A5:PT St:=pS [sP 1,sY 3 dB,sY 4 dB] [aB 1 (xs 4)]
def aoE {β:Type}(g:St->β):Bool->Bool->I4 β:=A5.unc g
def Xs:PT St:=pS [sY 4 dB,sY 11 dB] []
def UI {β:Type}(g:St->β):Bool->Bool->β:=Xs.unc g
def Wp:ag:=ag.sub [1,1,0,0,0] (emb VQ)
abbrev Em:Type 1:=(α:Type)->Bool->Bool->Int->Int->Int->Int->(Bool->Op α)->Op α
def DG (α:Type)(a b:Bool)(c d e g:Int)(k1:Bool->Op α):Op α:=
 cK a
 (cK (!b)
 (k1 true)
 (k1 (decide ((w64 (g - e))<=(w64 (d - c))))))
 (k1 false)
def sC:Em:=sld DG
def IU (v:Em)(α:Type)(K:KT α):Bool->Bool->I4 (Op α):=fun b a c d e g=>v α b a c d e g (fun h=>UI (K .normal) a h)
theorem VO:∀ (α:Type) (K:KT α),IU sC α K=A5.unc fun σ=>aF Pg Ek1 ah3 Wp K σ:=bM (fun α K=>by kernel_rfl)
abbrev xP:Type 1:=(α:Type)->Int->Int->Int->Int->(Int->Op α)->Op α
def N4 (α:Type)(a b c d:Int)(k1:Int->Op α):Op α:=
 od α a b
 (fun g=>od α c d
 (fun e=>sC α g e a b c d
 (fun h=>cK h
 (k1 1)
 (cK e
 (k1 2)
 (k1 0)))))
def jN:xP:=sld N4
def Ls:PT (List DV):=pA [pV true [(dI .i64),(dI .i64),(dI .i64),(dI .i64)]]
def Li (v:xP)(α:Type)(k:RT α):I4 (Op α):=fun a b c d=>v α a b c d (fun e=>bv k e)
def agK:ag:=(ag.put (.m [⟨A5,IU sC⟩]) [1,1,0,0] (emb VQ))
theorem afE:al Pg 121 36 ⟨Ls,Li jN⟩:=iZ ek1 (ah Tryz.func121 (by kernel_rfl)) ah3 agK ((aw _ _).trans (aG _)) (aY (by kernel_rfl) (aM VQ) ⟨VO,TT⟩) fun _ _=>by kernel_rfl
def Ui:SG:=[(10,[.sl])]
def asZ:TG:=[tT 0 [0],tT 1 [0,12,13],tT 2 [0,12,13,14],tT 3 [0,3,12,13],tT 4 [0,5,12,13],tT 5 [0,12,13,23],tT 6 [0,2],tT 7 [0,12,13],tT 8 [0,2]]
def ar2:TG:=[tT 2 [0,12,13]]
def adb:au:=aD Pg Tryz.f41 asZ ar2
def AN:OT:=tdC (ag.sub [1,0,1,0] (emb adb))
def E4:PT St:=pSv [(0,500000000,0)] [sl 0 (aV false [(gn 500000000 0)]),sI 12,sI 13] [aB 500000000 [xI,xI,xI,xI,xI,xI,xI,(cD dL),xI,xI]]
def ET {β:Type}(g:St->β):Int->Int->Int->Int->Int->Int->Int->Int->Int->ae->Int->Int->β:=E4.unc g
def agy:PT St:=pSv [(0,500000000,0)] [sl 0 (aV false [(gn 500000000 0)]),sY 2 dB] [aB 500000000 [xI,xI,xI,xI,xI,xI,xI,(cD dL),xI,xI]]
def yL {β:Type}(g:St->β):Bool->Int->Int->Int->Int->Int->Int->Int->ae->Int->Int->β:=agy.unc g
def adh:PT St:=pSv [(0,500000000,0)] [sl 0 (aV false [(gn 500000000 0)]),sI 12,sI 13,sY 14 dB] [aB 500000000 [xI,xI,xI,xI,xI,xI,xI,(cD dL),xI,xI]]
def yT {β:Type}(g:St->β):Int->Int->Bool->Int->Int->Int->Int->Int->Int->Int->ae->Int->Int->β:=adh.unc g
def XB:PT (List RV):=pRs [pR false [rD dB],pR true [rD (dI .i64),rD (dI .i64),rD (dI .i64),rD (dI .i64),rD (dI .i64),rD (dI .i64),rD (dI .i64),rD dL,rD (dI .i64),rD (dI .i64)]]
def abo {β:Type}(g:List RV->β):Bool->Int->Int->Int->Int->Int->Int->Int->ae->Int->Int->β:=XB.unc g
def yl:ag:=ag.sub [1,0,1,0,0] (emb adb)
def sE (α:Type)(b c:Int)(d:ae)(e g a:Int)(kn:Int->Op α)(k1:Op α)(k2:Int->Bool->Op α):Op α:=
 cK (decide (a < b))
 (An α c d e g a
 (fun i j h=>cK (h != 0)
 (k1)
 (kn (w64 (a+1)))))
 (k2 a (decide (a < b)))
def pN (α:Type)(a b:Int)(c:ae)(d e:Int)(k1:Op α)(k2:Int->Bool->Op α):Nat->Int->Op α
 | 0,_=>none
 | n+1,g=>sE α a b c d e g (pN α a b c d e k1 k2 n) k1 k2
def IB (α:Type)(a b:Int)(c:ae)(d e:Int)(k1:Op α)(k2:Int->Bool->Op α)(g:Int):Op α:=pN α a b c d e k1 k2 aN g
abbrev Hf:Type 1:=(α:Type)->Int->Int->ae->Int->Int->(Op α)->(Int->Bool->Op α)->Int->Op α
def yE:Hf:=sld IB
def Pu (v:Hf)(α:Type)(K:KT α):Int->Int->Int->Int->Int->Int->Int->Int->Int->ae->Int->Int->Op α:=fun e o g a h i j l m b c d=>v α e a b c d (yL (K .ret) true g a h i j l m b c d) (fun p q=>yT (K (.exit 0)) e p q g a h i j l m b c d) o
theorem agS (α:Type)(K:KT α)(Kn:SK α)(e g h a i j l m o:Int)(b:ae)(c d:Int):ET (fun σ=>aF Pg Ek1 Ui yl (di (fun σ=>bR AN σ Kn) K) σ) e g h a i j l m o b c d=sE α e a b c d g (fun g=>ET Kn e g h a i j l m o b c d) (yL (K .ret) true h a i j l m o b c d) (fun p q=>yT (K (.exit 0)) e p q h a i j l m o b c d):=by kernel_rfl
theorem adN (α:Type)(K:KT α):∀ (n:Nat) (e o g a h i j l m:Int) (b:ae) (c d:Int),pN α e a b c d (yL (K .ret) true g a h i j l m b c d) (fun p q=>yT (K (.exit 0)) e p q g a h i j l m b c d) n o=ET (aS (aF Pg Ek1 Ui yl) AN K n) e o g a h i j l m b c d:=by
 intro n
 induction n with
 | zero=>intros;rfl
 | succ n ih=>intro e o g a h i j l m b c d;exact (congrArg (fun kn=>sE α e a b c d o kn (yL (K .ret) true g a h i j l m b c d) (fun p q=>yT (K (.exit 0)) e p q g a h i j l m b c d)) (funext fun o=>ih e o g a h i j l m b c d)).trans (agS α K (aS (aF Pg Ek1 Ui yl) AN K n) e o g a h i j l m b c d).symm
theorem agD:∀ (α:Type) (K:KT α),Pu yE α K=E4.unc fun σ=>aS (aF Pg Ek1 Ui yl) AN K aN σ:=bM (fun α K=>funext fun a=>funext fun b=>funext fun c=>funext fun d=>funext fun e=>funext fun g=>funext fun h=>funext fun i=>funext fun j=>funext fun l=>funext fun m=>funext fun o=>adN α K aN a b c d e g h i j l m o)
abbrev ZB:Type 1:=(α:Type)->Int->ae->Int->Int->(Bool->Op α)->Op α
def Wi (α:Type)(b:Int)(a:ae)(c d:Int)(k1:Bool->Op α):Op α:=
 yE α (w64 (((List.length a:Nat):Int)+2)) b a c d
 (k1 true)
 (fun e g=>k1 false) 0
def xm:ZB:=sld Wi
def TA:PT (List DV):=pA [pV false [(dMr [(dI .i64),(dI .i64),(dI .i64),(dI .i64),(dI .i64),(dI .i64),(dI .i64),dL,(dI .i64),(dI .i64)] 0)]]
def abj (v:ZB)(α:Type)(k:RT α):Int->Int->Int->Int->Int->Int->Int->ae->Int->Int->Op α:=fun e a g h i j l b c d=>v α a b c d (fun m=>abo k m e a g h i j l b c d)
def alf:ag:=(ag.put (.m [⟨E4,Pu yE⟩]) [1,0,1,0] (emb adb))
theorem amn:al Pg 41 25 ⟨TA,abj xm⟩:=iZ ek1 (ah Tryz.func41 (by kernel_rfl)) Ui alf ((aw _ _).trans (aG _)) (bJ (td:=AN) (by kernel_rfl) (aM adb) ⟨agD,TT⟩) fun _ _=>by kernel_rfl
def ahJ:SG:=[(7,iT),(13,iT),(21,iT),(28,iT),(30,iT)]
def aqC:TG:=[tT 0 [1,2],tT 1 [2,5],tT 2 [4],tT 3 [26],tT 4 [4],tT 5 [4]]
def ZJ:au:=aD Pg Tryz.f196 aqC aX
def Bt:PT St:=pS [sI 1,sP 2] [aB 2 [xI,xI]]
def apQ {β:Type}(g:St->β):Int->Int->Int->β:=Bt.unc g
def Yv:PT St:=pS [sP 2,sY 5 dB] [aB 2 [xI,xI]]
def BM {β:Type}(g:St->β):Bool->Int->Int->β:=Yv.unc g
def U6:ag:=ag.sub [1,0,0,0] (emb ZJ)
def C8 (α:Type)(a c b:Int)(k1:Bool->Op α):Op α:=
 kM α c a 1099511627776
 (fun d=>cK (!d)
 (k1 true)
 (cK (decide (1099511627776 < b))
 (k1 true)
 (cK (decide (a < 0))
 (k1 (decide (b < a)))
 (k1 false))))
def ta:cW:=sld C8
def Jb (v:cW)(α:Type)(K:KT α):Int->Int->Int->Op α:=fun c a b=>v α c a b (fun d=>BM (K .normal) d a b)
theorem Vo:∀ (α:Type) (K:KT α),Jb ta α K=Bt.unc fun σ=>aF Pg Ek1 ahJ U6 K σ:=bM (fun α K=>by kernel_rfl)
def NN (α:Type)(a b c:Int)(k1:Int->Op α):Op α:=
 ta α c a b
 (fun d=>cK d
 (k1 2)
 (cK (decide (b < a))
 (k1 10)
 (k1 0)))
def v4:vc:=sld NN
def Mn (v:vc)(α:Type)(k:RT α):Int->Int->Int->Op α:=fun a b c=>v α a b c (fun d=>bv k d)
def agY:ag:=(ag.put (.m [⟨Bt,Jb ta⟩]) [1,0,0] (emb ZJ))
theorem acO:al Pg 196 32 ⟨qc,Mn v4⟩:=iZ ek1 (ah Tryz.func196 (by kernel_rfl)) ahJ agY ((aw _ _).trans (aG _)) (aY (by kernel_rfl) (aM ZJ) ⟨Vo,TT⟩) fun _ _=>by kernel_rfl
def anC:TG:=[tT 0 [0],tT 1 [2]]
def ap0:au:=aD Pg Tryz.f203 anC aX
def Rc (α:Type)(a:Int)(k1:Int->Op α):Op α:=
 gz α a
 (fun b=>k1 (w64 (64 - b)))
def ze:dw:=sld Rc
def N3 (v:dw)(α:Type)(k:RT α):Int->Op α:=fun a=>v α a (fun b=>bv k b)
theorem ahb:al Pg 203 6 ⟨yR,N3 ze⟩:=iP ek1 ap0 (ah Tryz.func203 (by kernel_rfl)) bw fun _ _=>by kernel_rfl
def aiw:SG:=[(7,iS 2),(9,iS 2),(12,iT),(14,iT)]
def an1:TG:=[tT 0 [2,3,4],tT 1 [4,5]]
def aok:au:=aD Pg Tryz.f177 an1 aX
def SC:PT (List RV):=pRs [pR true [rD (dI .i64),rD (dI .i64),rD (dI .i64)],wI]
def eo {β:Type}(g:List RV->β):I4 β:=SC.unc g
abbrev fS:Type 1:=(α:Type)->Int->Int->Int->Int->Int->Int->(Int->Int->Int->Op α)->Op α
def Nm (α:Type)(a b c d e g:Int)(k1:Int->Int->Int->Op α):Op α:=
 EG α a b d e
 (fun h i=>k1 h i (w64 (c+g)))
def EN:fS:=sld Nm
def j3:PT (List DV):=pA [pV true [(dI .i64),(dI .i64),(dI .i64)],pV true [(dI .i64),(dI .i64),(dI .i64)]]
def OI (v:fS)(α:Type)(k:RT α):I6 (Op α):=fun a b c d e g=>v α a b c d e g (fun h i j=>eo k h i j 0)
theorem aeq:al Pg 177 17 ⟨j3,OI EN⟩:=iP ek1 aok (ah Tryz.func177 (by kernel_rfl)) aiw fun _ _=>by kernel_rfl
def asA:TG:=[tT 0 [0,1],tT 1 [4]]
def ar8:au:=aD Pg Tryz.f89 asA aX
def JZ (α:Type)(a b:Int)(k1:Int->Op α):Op α:=
 jq α (w64 (0 - a)) b
 (fun c=>k1 (w64 (0 - c)))
def dS:dz:=sld JZ
def abh (v:dz)(α:Type)(k:RT α):Int->Int->Op α:=fun a b=>v α a b (fun c=>bv k c)
theorem ajU:al Pg 89 10 ⟨ed,abh dS⟩:=iP ek1 ar8 (ah Tryz.func89 (by kernel_rfl)) bw fun _ _=>by kernel_rfl
def arh:TG:=[tT 0 [0],tT 1 [0,3],tT 2 [0,3,12],tT 3 [0,3],tT 4 [0,3,21],tT 5 [0,3],tT 6 [2]]
def amC:TG:=[tT 2 [0,3],tT 4 [0,3]]
def DR:au:=aD Pg Tryz.f141 arh amC
def tK:OT:=tdC (ag.sub [1,1,0,0] (emb DR))
def ou:OT:=tdC (ag.sub [1,1,1,0,0] (emb DR))
def aaK:PT St:=pS [sI 0,sI 3,sY 12 dB] []
def sr {β:Type}(g:St->β):Int->Int->Bool->β:=aaK.unc g
def WH:PT St:=pS [sI 0,sI 3,sY 21 dB] []
def tz {β:Type}(g:St->β):Int->Int->Bool->β:=WH.unc g
def pj:ag:=ag.sub [1,1,1,0,0,0] (emb DR)
def nP (α:Type)(b a:Int)(kn:Int->Op α)(k1:Int->Bool->Op α):Op α:=
 cK (decide ((w64 ((w64 (a+1))*(w64 (a+1))))<=b))
 (kn (w64 (a+1)))
 (k1 a (decide ((w64 ((w64 (a+1))*(w64 (a+1))))<=b)))
def fK (α:Type)(a:Int)(k1:Int->Bool->Op α):Nat->Int->Op α
 | 0,_=>none
 | n+1,b=>nP α a b (fK α a k1 n) k1
def Ek (α:Type)(a:Int)(k1:Int->Bool->Op α)(b:Int):Op α:=fK α a k1 aN b
def lh:i8:=sld Ek
def HL (v:i8)(α:Type)(K:KT α):Int->Int->Op α:=fun a b=>v α a (fun c d=>tz (K (.exit 2)) a c d) b
theorem WY (α:Type)(K:KT α)(Kn:SK α)(a b:Int):gB (fun σ=>aF Pg Ek1 bw pj (di (fun σ=>bR ou σ Kn) K) σ) a b=nP α a b (fun b=>gB Kn a b) (fun c d=>tz (K (.exit 2)) a c d):=by kernel_rfl
theorem ZQ (α:Type)(K:KT α):∀ (n:Nat) (a b:Int),fK α a (fun c d=>tz (K (.exit 2)) a c d) n b=gB (aS (aF Pg Ek1 bw pj) ou K n) a b:=by
 intro n
 induction n with
 | zero=>intros;rfl
 | succ n ih=>intro a b;exact (congrArg (fun kn=>nP α a b kn (fun c d=>tz (K (.exit 2)) a c d)) (funext fun b=>ih a b)).trans (WY α K (aS (aF Pg Ek1 bw pj) ou K n) a b).symm
theorem aa7:∀ (α:Type) (K:KT α),HL lh α K=jk.unc fun σ=>aS (aF Pg Ek1 bw pj) ou K aN σ:=bM (fun α K=>funext fun a=>funext fun b=>ZQ α K aN a b)
def r6:ag:=ag.sub [1,1,0,0,0] (emb DR)
def lW (α:Type)(b a:Int)(kn:Int->Op α)(k1:Int->Bool->Op α):Op α:=
 cK (decide (b < (w64 (a*a))))
 (kn (w64 (a - 1)))
 (k1 a (decide (b < (w64 (a*a)))))
def fu (α:Type)(a:Int)(k1:Int->Bool->Op α):Nat->Int->Op α
 | 0,_=>none
 | n+1,b=>lW α a b (fu α a k1 n) k1
def Dw (α:Type)(a:Int)(k1:Int->Bool->Op α)(b:Int):Op α:=fu α a k1 aN b
def lV:i8:=sld Dw
def Id (v:i8)(α:Type)(K:KT α):Int->Int->Op α:=fun a b=>v α a (fun c d=>sr (K (.exit 0)) a c d) b
theorem Wc (α:Type)(K:KT α)(Kn:SK α)(a b:Int):gB (fun σ=>aF Pg Ek1 bw r6 (di (fun σ=>bR tK σ Kn) K) σ) a b=lW α a b (fun b=>gB Kn a b) (fun c d=>sr (K (.exit 0)) a c d):=by kernel_rfl
theorem V6 (α:Type)(K:KT α):∀ (n:Nat) (a b:Int),fu α a (fun c d=>sr (K (.exit 0)) a c d) n b=gB (aS (aF Pg Ek1 bw r6) tK K n) a b:=by
 intro n
 induction n with
 | zero=>intros;rfl
 | succ n ih=>intro a b;exact (congrArg (fun kn=>lW α a b kn (fun c d=>sr (K (.exit 0)) a c d)) (funext fun b=>ih a b)).trans (Wc α K (aS (aF Pg Ek1 bw r6) tK K n) a b).symm
theorem ZG:∀ (α:Type) (K:KT α),Id lV α K=jk.unc fun σ=>aS (aF Pg Ek1 bw r6) tK K aN σ:=bM (fun α K=>funext fun a=>funext fun b=>V6 α K aN a b)
def PQ (α:Type)(a:Int)(k1:Int->Op α):Op α:=
 F8 α (FloatKind.nearest .f64 a)
 (fun b=>ivK (f2i .f64 b .i64)
 (fun c=>lV α a
 (fun d g=>lh α a
 (fun e h=>k1 e) d) c))
def eM:dw:=sld PQ
def Nb (v:dw)(α:Type)(k:RT α):Int->Op α:=fun a=>v α a (fun b=>bv k b)
def abF:ag:=(ag.put (.m [⟨jk,Id lV⟩]) [1,1,0,0] (ag.put (.m [⟨jk,HL lh⟩]) [1,1,1,0,0] (emb DR)))
theorem agJ:al Pg 141 25 ⟨bC,Nb eM⟩:=iZ ek1 (ah Tryz.func141 (by kernel_rfl)) bw abF ((aw _ _).trans ((aw _ _).trans (aG _))) (bJ (td:=tK) (by kernel_rfl) (bJ (td:=ou) (by kernel_rfl) (aM DR) ⟨aa7,TT⟩) ⟨ZG,TT⟩) fun _ _=>by kernel_rfl
def aqi:TG:=[tT 0 [2,3,4],tT 1 [4,5]]
def apq:au:=aD Pg Tryz.f167 aqi aX
def Ln (α:Type)(a b c d e g:Int)(k1:Int->Int->Int->Op α):Op α:=
 vX α a b d e
 (fun h i=>k1 h i (w64 (c+g)))
def FJ:fS:=sld Ln
def Rb (v:fS)(α:Type)(k:RT α):I6 (Op α):=fun a b c d e g=>v α a b c d e g (fun h i j=>eo k h i j 0)
theorem adK:al Pg 167 17 ⟨j3,Rb FJ⟩:=iP ek1 apq (ah Tryz.func167 (by kernel_rfl)) aiw fun _ _=>by kernel_rfl
def arl:TG:=[tT 0 [0,1],tT 1 [0,1,6],tT 2 [0],tT 3 [0,10],tT 4 [0],tT 5 [4]]
def aoJ:au:=aD Pg Tryz.f205 arl aX
abbrev Pf:Type 1:=(α:Type)->Nat->Int->(Bool->Op α)->Op α
def NJ (α:Type)(a:Nat)(b:Int)(k1:Bool->Op α):Op α:=
 cK (b == 0)
 (vq α a
 (fun c=>k1 ((FloatKind.format .f64).order c 9218868437227405311 == some Ordering.gt)))
 (cK (decide (b < 0))
 (k1 ((FloatKind.format .f64).order (Op.negFloat .f64 a) 9218868437227405311 == some Ordering.gt))
 (k1 ((FloatKind.format .f64).order a 9218868437227405311 == some Ordering.gt)))
def E1:Pf:=sld NJ
def Le:PT (List DV):=pA [pV false [(dF .f64)],vI]
def NI (v:Pf)(α:Type)(k:RT α):Nat->Int->Op α:=fun a b=>v α a b (fun c=>bG k c)
theorem ahn:al Pg 205 15 ⟨Le,NI E1⟩:=iP ek1 aoJ (ah Tryz.func205 (by kernel_rfl)) bw fun _ _=>by kernel_rfl
def anZ:TG:=[tT 0 [0,1],tT 1 [4,5]]
def an0:au:=aD Pg Tryz.f171 anZ aX
def R9:PT (List RV):=pRs [wI,pR false [rD dB]]
def Dp {β:Type}(g:List RV->β):Int->Bool->β:=R9.unc g
abbrev Mo:Type 1:=(α:Type)->Int->Int->(Int->Bool->Op α)->Op α
def OL (α:Type)(b a:Int)(k1:Int->Bool->Op α):Op α:=
 jq α (w64 ((w64 (2*b))+a)) (w64 (2*a))
 (fun c=>gK (a != 0) (k1 c ((Int.tmod b a) != 0)))
def mF:Mo:=sld OL
def Ns (v:Mo)(α:Type)(k:RT α):Int->Int->Op α:=fun a b=>v α a b (fun c d=>Dp k c d)
theorem acd:al Pg 171 17 ⟨ed,Ns mF⟩:=iP ek1 an0 (ah Tryz.func171 (by kernel_rfl)) bw fun _ _=>by kernel_rfl
def anB:TG:=[tT 0 [0,1],tT 1 [4]]
def apo:au:=aD Pg Tryz.f140 anB aX
def N9 (α:Type)(b a:Int)(k1:Bool->Op α):Op α:=
 kM α b (w64 (0 - a)) a
 (fun c=>k1 c)
def jy:bS:=sld N9
def Q9 (v:bS)(α:Type)(k:RT α):Int->Int->Op α:=fun a b=>v α a b (fun c=>bG k c)
theorem adM:al Pg 140 10 ⟨ed,Q9 jy⟩:=iP ek1 apo (ah Tryz.func140 (by kernel_rfl)) bw fun _ _=>by kernel_rfl
def amM:TG:=[tT 0 [0],tT 1 [2]]
def aoB:au:=aD Pg Tryz.f117 amM aX
abbrev hZ:Type 1:=(α:Type)->Int->(Bool->Op α)->Op α
def MJ (α:Type)(a:Int)(k1:Bool->Op α):Op α:=
 jG α a 1000 200000
 (fun b=>k1 b)
def B7:hZ:=sld MJ
def OO (v:hZ)(α:Type)(k:RT α):Int->Op α:=fun a=>v α a (fun b=>bG k b)
theorem adC:al Pg 117 5 ⟨bC,OO B7⟩:=iP ek1 aoB (ah Tryz.func117 (by kernel_rfl)) bw fun _ _=>by kernel_rfl
def aqH:TG:=[tT 0 [0],tT 1 [2]]
def aqh:au:=aD Pg Tryz.f116 aqH aX
def Qj (α:Type)(a:Int)(k1:Bool->Op α):Op α:=
 jG α a 0 9999
 (fun b=>k1 b)
def zU:hZ:=sld Qj
def QD (v:hZ)(α:Type)(k:RT α):Int->Op α:=fun a=>v α a (fun b=>bG k b)
theorem aeI:al Pg 116 5 ⟨bC,QD zU⟩:=iP ek1 aqh (ah Tryz.func116 (by kernel_rfl)) bw fun _ _=>by kernel_rfl
def ahz:SG:=[(8,iT),(14,iT)]
def ap6:TG:=[tT 0 [1,2,3],tT 1 [6]]
def apW:au:=aD Pg Tryz.f159 ap6 aX
abbrev j8:Type 1:=(α:Type)->Int->Int->Int->Int->(Bool->Op α)->Op α
def Qr (α:Type)(c d a b:Int)(k1:Bool->Op α):Op α:=
 oc α c a b
 (fun e=>cK e
 (oc α d a b
 (fun g=>k1 g))
 (k1 false))
def vb:j8:=sld Qr
def pM:PT (List DV):=pA [pV true [(dI .i64),(dI .i64)],vI,vI]
def LS (v:j8)(α:Type)(k:RT α):I4 (Op α):=fun a b c d=>v α a b c d (fun e=>bG k e)
theorem acA:al Pg 159 19 ⟨pM,LS vb⟩:=iP ek1 apW (ah Tryz.func159 (by kernel_rfl)) ahz fun _ _=>by kernel_rfl
end
end Go.AM.K
