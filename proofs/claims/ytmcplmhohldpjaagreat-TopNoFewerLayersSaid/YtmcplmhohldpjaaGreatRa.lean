/- Printed by KGen. -/
import Derived.Test.YtmcplmhohldpjaaGreatProg
import Derived.Test.YtmcplmhohldpjaaGreatKS1
import Derived.Test.YtmcplmhohldpjaaGreatRh
namespace Go.AM.K
open Go.Proofs
set_option maxRecDepth 100000
set_option linter.unusedVariables false
noncomputable section
theorem TT:True:=True.intro
abbrev sY (n:Nat)(x:_):=sl n (aV false [cD x])
abbrev ln9 (n:Nat):Go.Op:=.call { callee:=.builtin .len,args:=#[(.tmp n)],argTypes:=#[9] }
noncomputable abbrev Pg:=Tryz.prog
abbrev I8 (t:Type):Type:=Int->Int->Int->Int->Int->Int->Int->Int->t
abbrev I15 (t:Type):Type:=Int->Int->Int->Int->Int->Int->Int->Int->Int->Int->Int->Int->Int->Int->Int->t
theorem Bo:Pg.follows .mixedOrders=true:=by kernel_rfl
theorem iZ {E:aE}{f nt:Nat}{tr tl:TG}{ac:au}{rs:List dV}{T:Type 1}{b:T}{pa:PT (List DV)}{Fn:T->(α:Type)->(List RV->Op α)->pa.Cur (Op α)}
 (hE:E.Ok Pg) (hf:vn Pg f nt tr tl ac rs) (sh:SG) (cm:ah) (em:cm.erase=ac) (gm:cm.Good Pg E sh) (fm:∀ (α:Type) (k:RT α),Fn b α k=pa.unc fun ds=>fnM Pg E sh cm rs k ds):al Pg f nt ⟨pa,Fn (sld b)⟩:=T6 hE Bo hf sh cm em gm fm
theorem iP {E:aE}{f nt:Nat}{tr tl:TG}{rs:List dV}{T:Type 1}{b:T}{pa:PT (List DV)}{Fn:T->(α:Type)->(List RV->Op α)->pa.Cur (Op α)}
 (hE:E.Ok Pg) (ac:au) (hf:vn Pg f nt tr tl ac rs) (sh:SG) (fm:∀ (α:Type) (k:RT α),Fn b α k=pa.unc fun ds=>fnM Pg E sh (emb ac) rs k ds):al Pg f nt ⟨pa,Fn (sld b)⟩:=T6 hE Bo hf sh (emb ac) (aG _) (aK ac) fm
def br:SG:=[]
def arU:TG:=[tT 0 [0,1],tT 1 [0,1],tT 2 [0,1,9],tT 3 [0],tT 4 [4]]
def aR:TG:=[]
def atx:au:=aB Pg Tryz.f19 arU aR
def Ym:PT (List RV):=pRs [wI]
def bu {β:Type}(g:List RV->β):Int->β:=Ym.unc g
def io0:List (Nat × List Nat):=[(32,[0]),(33,[0]),(34,[0]),(35,[0]),(41,[0]),(73,[0]),(74,[0]),(75,[0]),(76,[0]),(77,[0]),(78,[0]),(80,[0]),(81,[0]),(82,[0]),(83,[0]),(125,[0]),(126,[0]),(127,[0]),(128,[0]),(134,[0]),(163,[0])]
noncomputable abbrev Lk0:List bC:=[]
theorem ak0:bF Lk0 fun c=>bF c.l (al Pg c.f c.nt):=TT
def Ek0:aE:=aE.ofIO Lk0 bG io0
theorem ek0:Ek0.Ok Pg:=aE.ofIO_ok aP ak0
abbrev dt:Type 1:=(α:Type)->Int->Int->(Int->Op α)->Op α
def YQ (α:Type)(b a:Int)(k1:Int->Op α):Op α:=
 gK (a != 0) (cK (decide ((Int.tmod b a) < 0))
 (k1 (w64 ((Int.tmod b a)+a)))
 (k1 (Int.tmod b a)))
def Cu:dt:=sld YQ
def dr:PT (List DV):=pA [vI,vI]
def UV (v:dt)(α:Type)(k:RT α):Int->Int->Op α:=fun a b=>v α a b (fun c=>bu k c)
theorem ajM:al Pg 19 14 ⟨dr,UV Cu⟩:=iP ek0 atx (ag Tryz.func19 (by kernel_rfl)) br fun _ _=>by kernel_rfl
def atf:TG:=[tT 0 [0],(1,⟨[2],true,[⟨false,2,0,20002,1⟩],[]⟩)]
def asO:au:=aB Pg Tryz.f17 atf aR
def Z3:PT (List RV):=pRs [pR false [rO 1]]
def XK {β:Type}(g:List RV->β):ae->β:=Z3.unc g
abbrev En:Type 1:=(α:Type)->ae->(ae->Op α)->Op α
def XQ (α:Type)(a:ae)(k1:ae->Op α):Op α:=
 gK (dv 1 8 ([]:ae) a) (k1 (([]:ae)++a))
def vX:En:=sld XQ
def oc:PT (List DV):=pA [pV false [dL]]
def Vp (v:En)(α:Type)(k:RT α):ae->Op α:=fun a=>v α a (fun b=>XK k b)
theorem ajc:al Pg 17 6 ⟨oc,Vp vX⟩:=iP ek0 asO (ag Tryz.func17 (by kernel_rfl)) br fun _ _=>by kernel_rfl
def aag:SG:=[(4,iT),(6,iT)]
def apE:TG:=[tT 0 [1],tT 1 [2]]
def aqo:au:=aB Pg Tryz.f161 apE aR
def QS:PT (List RV):=pRs [pR false [rD dB]]
def bA {β:Type}(g:List RV->β):Bool->β:=QS.unc g
abbrev bN:Type 1:=(α:Type)->Int->Int->(Bool->Op α)->Op α
def LG (α:Type)(a b:Int)(k1:Bool->Op α):Op α:=
 k1 (decide (2<=(w64 (b - a))))
def mg:bN:=sld LG
def bD:PT (List DV):=pA [pV true [(dI .i64),(dI .i64)]]
def NS (v:bN)(α:Type)(k:RT α):Int->Int->Op α:=fun a b=>v α a b (fun c=>bA k c)
theorem acj:al Pg 161 9 ⟨bD,NS mg⟩:=iP ek0 aqo (ag Tryz.func161 (by kernel_rfl)) aag fun _ _=>by kernel_rfl
def aob:TG:=[tT 0 [0,1,4],tT 1 [4]]
def apj:au:=aB Pg Tryz.f120 aob aR
def Sd:PT (List RV):=pRs [pR true [rD (dI .i64),rD (dI .i64),rD (dI .i64),rD (dI .i64)]]
def ug {β:Type}(g:List RV->β):I4 β:=Sd.unc g
abbrev eW:Type 1:=(α:Type)->(Op α)->Op α
def Km (α:Type)(k1:Op α):Op α:=
 k1
def jj:eW:=sld Km
def PV (v:eW)(α:Type)(k:RT α):Int->Int->Op α:=fun a b=>v α (ug k a a b b)
theorem agk:al Pg 120 12 ⟨dr,PV jj⟩:=iP ek0 apj (ag Tryz.func120 (by kernel_rfl)) br fun _ _=>by kernel_rfl
def aqV:TG:=[tT 0 [1],tT 1 [2]]
def arj:au:=aB Pg Tryz.f119 aqV aR
def P1 (α:Type)(a b:Int)(k1:Int->Op α):Op α:=
 k1 (Int.fdiv (w64 (a+b)) (2 ^ 1))
def eG:dt:=sld P1
def Lx (v:dt)(α:Type)(k:RT α):Int->Int->Op α:=fun a b=>v α a b (fun c=>bu k c)
theorem agb:al Pg 119 9 ⟨bD,Lx eG⟩:=iP ek0 arj (ag Tryz.func119 (by kernel_rfl)) aag fun _ _=>by kernel_rfl
def asR:SG:=[(6,iT),(9,iT),(13,iT),(16,iT)]
def aur:TG:=[tT 0 [2,3,4],tT 1 [4]]
def asS:au:=aB Pg Tryz.f42 aur aR
def Xf:PT (List RV):=pRs [pR true [rD (dI .i64),rD (dI .i64)]]
def cN {β:Type}(g:List RV->β):Int->Int->β:=Xf.unc g
abbrev jY:Type 1:=(α:Type)->Int->Int->Int->Int->(Int->Int->Op α)->Op α
def TI (α:Type)(a b c d:Int)(k1:Int->Int->Op α):Op α:=
 k1 (if (w64 ((w64 (1048576 - b)) - d)) > 0 then (w64 ((w64 (1048576 - b)) - d)) else 0) (if (w64 ((w64 (1048576 - a)) - c)) > 0 then (w64 ((w64 (1048576 - a)) - c)) else 0)
def v5:jY:=sld TI
def jZ:PT (List DV):=pA [pV true [(dI .i64),(dI .i64)],pV true [(dI .i64),(dI .i64)]]
def Zz (v:jY)(α:Type)(k:RT α):I4 (Op α):=fun a b c d=>v α a b c d (fun e g=>cN k e g)
theorem alx:al Pg 42 20 ⟨jZ,Zz v5⟩:=iP ek0 asS (ag Tryz.func42 (by kernel_rfl)) asR fun _ _=>by kernel_rfl
def alh:SG:=[(4,iT),(7,iT)]
def arF:TG:=[tT 0 [1,2],tT 1 [2]]
def ati:au:=aB Pg Tryz.f38 arF aR
abbrev kw:Type 1:=(α:Type)->Int->Int->(Int->Int->Op α)->Op α
def aad (α:Type)(a b:Int)(k1:Int->Int->Op α):Op α:=
 k1 (if 1048576 < a then 1048576 else a) (if 1048576 < b then 1048576 else b)
def Dz:kw:=sld aad
def aa9 (v:kw)(α:Type)(k:RT α):Int->Int->Op α:=fun a b=>v α a b (fun c d=>cN k c d)
theorem ako:al Pg 38 10 ⟨bD,aa9 Dz⟩:=iP ek0 ati (ag Tryz.func38 (by kernel_rfl)) alh fun _ _=>by kernel_rfl
def aqP:TG:=[tT 0 [0],tT 1 [0,3],tT 2 [0,3,7],tT 3 [0,3],tT 4 [2]]
def am1:TG:=[tT 2 [0,3]]
def MM:au:=aB Pg Tryz.f215 aqP am1
def tv:OT:=tdC (ah.sub [1,1,0,0] (emb MM))
def iW:PT St:=pS [sI 0,sI 3] []
def gy {β:Type}(g:St->β):Int->Int->β:=iW.unc g
def TA:PT St:=pS [sI 0,sI 3,sY 7 dB] []
def rM {β:Type}(g:St->β):Int->Int->Bool->β:=TA.unc g
def tk:ah:=ah.sub [1,1,0,0,0] (emb MM)
def no (α:Type)(b a:Int)(kn:Int->Op α)(k1:Int->Bool->Op α):Op α:=
 gK (decide (0<=a)) (cK (decide ((w64 (1048576*2 ^ (min (Int.toNat a) 64))) < b))
 (kn (w64 (a+1)))
 (k1 a (decide ((w64 (1048576*2 ^ (min (Int.toNat a) 64))) < b))))
def kT (α:Type)(a:Int)(k1:Int->Bool->Op α):Nat->Int->Op α
 | 0,_=>none
 | n+1,b=>no α a b (kT α a k1 n) k1
def BY (α:Type)(a:Int)(k1:Int->Bool->Op α)(b:Int):Op α:=kT α a k1 aN b
abbrev iL:Type 1:=(α:Type)->Int->(Int->Bool->Op α)->Int->Op α
def tB:iL:=sld BY
def Hm (v:iL)(α:Type)(K:KT α):Int->Int->Op α:=fun a b=>v α a (fun c d=>rM (K (.exit 0)) a c d) b
theorem ZE (α:Type)(K:KT α)(Kn:SK α)(a b:Int):gy (fun σ=>aF Pg Ek0 br tk (cX (fun σ=>bW tv σ Kn) K) σ) a b=no α a b (fun b=>gy Kn a b) (fun c d=>rM (K (.exit 0)) a c d):=by kernel_rfl
theorem V4 (α:Type)(K:KT α):∀ (n:Nat) (a b:Int),kT α a (fun c d=>rM (K (.exit 0)) a c d) n b=gy (aS (aF Pg Ek0 br tk) tv K n) a b:=by
 intro n
 induction n with
 | zero=>intros;rfl
 | succ n ih=>intro a b;exact (congrArg (fun kn=>no α a b kn (fun c d=>rM (K (.exit 0)) a c d)) (funext fun b=>ih a b)).trans (ZE α K (aS (aF Pg Ek0 br tk) tv K n) a b).symm
theorem SM:∀ (α:Type) (K:KT α),Hm tB α K=iW.unc fun σ=>aS (aF Pg Ek0 br tk) tv K aN σ:=bR (fun α K=>funext fun a=>funext fun b=>V4 α K aN a b)
abbrev dl:Type 1:=(α:Type)->Int->(Int->Op α)->Op α
def Ku (α:Type)(a:Int)(k1:Int->Op α):Op α:=
 tB α a
 (fun b c=>k1 b) 0
def uk:dl:=sld Ku
def bj:PT (List DV):=pA [vI]
def Qq (v:dl)(α:Type)(k:RT α):Int->Op α:=fun a=>v α a (fun b=>bu k b)
def afQ:ah:=(ah.put (.m [⟨iW,Hm tB⟩]) [1,1,0,0] (emb MM))
theorem af5:al Pg 215 11 ⟨bj,Qq uk⟩:=iZ ek0 (ag Tryz.func215 (by kernel_rfl)) br afQ ((aA _ _).trans (aG _)) (bK (td:=tv) (by kernel_rfl) (aK MM) ⟨SM,TT⟩) fun _ _=>by kernel_rfl
def ass:TG:=[tT 0 [1,2],tT 1 [2]]
def at7:au:=aB Pg Tryz.f37 ass aR
def S7 (α:Type)(a b:Int)(k1:Int->Int->Op α):Op α:=
 k1 (if a > 0 then a else 0) (if b > 0 then b else 0)
def tD:kw:=sld S7
def Wo (v:kw)(α:Type)(k:RT α):Int->Int->Op α:=fun a b=>v α a b (fun c d=>cN k c d)
theorem ajR:al Pg 37 10 ⟨bD,Wo tD⟩:=iP ek0 at7 (ag Tryz.func37 (by kernel_rfl)) alh fun _ _=>by kernel_rfl
def anx:TG:=[tT 0 [0],tT 1 [0]]
def am3:au:=aB Pg Tryz.f124 anx aR
def So:PT (List RV):=pRs [pR true [rD (dX .f64),rD (dI .i64)]]
def DE {β:Type}(g:List RV->β):Nat->Nat->Int->β:=So.unc g
def O5 (α:Type)(k1:Op α):Op α:=
 k1
def yJ:eW:=sld O5
def wN:PT (List DV):=pA []
def Ph (v:eW)(α:Type)(k:RT α):Op α:=v α (DE k 0 0 0)
theorem aeM:al Pg 124 2 ⟨wN,Ph yJ⟩:=iP ek0 am3 (ag Tryz.func124 (by kernel_rfl)) br fun _ _=>by kernel_rfl
def aoG:TG:=[tT 0 [0],tT 1 [0]]
def aqC:au:=aB Pg Tryz.f123 aoG aR
def FY (α:Type)(k1:Op α):Op α:=
 k1
def lR:eW:=sld FY
def Qb (v:eW)(α:Type)(k:RT α):Op α:=v α (DE k 4697254411347427328 0 0)
theorem agp:al Pg 123 2 ⟨wN,Qb lR⟩:=iP ek0 aqC (ag Tryz.func123 (by kernel_rfl)) br fun _ _=>by kernel_rfl
def an5:TG:=[tT 0 [1,2],tT 1 [2]]
def anj:au:=aB Pg Tryz.f174 an5 aR
def NA (α:Type)(a:Int)(k1:Int->Op α):Op α:=
 k1 (w64 (0 - a))
def EB:dl:=sld NA
def OP (v:dl)(α:Type)(k:RT α):Int->Int->Op α:=fun a b=>v α b (fun c=>cN k a c)
theorem adb:al Pg 174 9 ⟨bD,OP EB⟩:=iP ek0 anj (ag Tryz.func174 (by kernel_rfl)) aag fun _ _=>by kernel_rfl
def anU:SG:=[(6,iT),(10,iT)]
def aqq:TG:=[tT 0 [0,1,3],tT 1 [3]]
def apu:au:=aB Pg Tryz.f133 aqq aR
def OX (α:Type)(a b:Int)(k1:Int->Int->Op α):Op α:=
 k1 (w64 (a - b)) (w64 (a+b))
def zN:kw:=sld OX
def PK:PT (List DV):=pA [vI,pV false [(dP [(dI .i64),(dI .i64),(dI .i64)] 0)]]
def Nt (v:kw)(α:Type)(k:RT α):I4 (Op α):=fun a e g b=>v α a b (fun c d=>cN k c d)
theorem aep:al Pg 133 13 ⟨PK,Nt zN⟩:=iP ek0 apu (ag Tryz.func133 (by kernel_rfl)) anU fun _ _=>by kernel_rfl
def aof:TG:=[tT 0 [0,2],tT 1 [0,2,4],tT 2 [0],tT 3 [0,2],tT 4 [0,2,8],tT 5 [0,2],tT 6 [0,2],tT 7 [0,2,14],tT 8 [0,2],tT 9 [0,2],tT 10 [2]]
def H9:au:=aB Pg Tryz.f216 aof aR
def jx:PT St:=pS [sY 0 (dI .u64),sI 2] []
def nh {β:Type}(g:St->β):Int->Int->β:=jx.unc g
def yD:PT St:=pS [sY 0 (dI .u64),sI 2,sY 4 dB] []
def aa4 {β:Type}(g:St->β):Int->Int->Bool->β:=yD.unc g
def yK:PT St:=pS [sY 0 (dI .u64),sI 2,sY 8 dB] []
def II {β:Type}(g:St->β):Int->Int->Bool->β:=yK.unc g
def Vg:PT St:=pS [sY 0 (dI .u64),sI 2,sY 14 dB] []
def IB {β:Type}(g:St->β):Int->Int->Bool->β:=Vg.unc g
def Ce:ah:=ah.sub [1,1,1,0] (emb H9)
abbrev ge:Type 1:=(α:Type)->Int->Int->(Int->Int->Op α)->(Bool->Op α)->Op α
def ud (α:Type)(a b:Int)(k1:Int->Int->Op α)(k2:Bool->Op α):Op α:=
 cK (decide (256<=a))
 (k1 (Int.fdiv a (2 ^ 8)) (w64 (b+8)))
 (k2 (decide (256<=a)))
def ie:ge:=sld ud
def Hq (v:ge)(α:Type)(K:KT α):Int->Int->Op α:=fun b c=>v α b c (fun a d=>nh (K .normal) a d) (fun a=>IB (K .normal) b c a)
theorem WW:∀ (α:Type) (K:KT α),Hq ie α K=jx.unc fun σ=>aF Pg Ek0 br Ce K σ:=bR (fun α K=>by kernel_rfl)
def vg (α:Type)(a b:Int)(k1:Int->Int->Op α)(k2:Bool->Op α):Op α:=
 cK (decide (256<=a))
 (k1 (Int.fdiv a (2 ^ 8)) (w64 (b+8)))
 (k2 (decide (256<=a)))
def g7:ge:=sld vg
def GM (v:ge)(α:Type)(K:KT α):Int->Int->Bool->Op α:=fun b c e=>v α b c (fun a d=>nh (K .normal) a d) (fun a=>IB (K .normal) b c a)
theorem aaK:∀ (α:Type) (K:KT α),GM g7 α K=yK.unc fun σ=>aF Pg Ek0 br Ce K σ:=bR (fun α K=>by kernel_rfl)
def CN:ah:=ah.sub [1,1,0] (emb H9)
def u7 (α:Type)(a b:Int)(k1:Int->Int->Op α)(k2:Bool->Op α):Op α:=
 cK (decide (65536<=a))
 (k1 (Int.fdiv a (2 ^ 16)) (w64 (b+16)))
 (k2 (decide (65536<=a)))
def ji:ge:=sld u7
def HV (v:ge)(α:Type)(K:KT α):Int->Int->Op α:=fun b c=>v α b c (fun a d=>nh (K .normal) a d) (fun a=>II (K .normal) b c a)
theorem SZ:∀ (α:Type) (K:KT α),HV ji α K=jx.unc fun σ=>aF Pg Ek0 br CN K σ:=bR (fun α K=>by kernel_rfl)
def ut (α:Type)(a b:Int)(k1:Int->Int->Op α)(k2:Bool->Op α):Op α:=
 cK (decide (65536<=a))
 (k1 (Int.fdiv a (2 ^ 16)) (w64 (b+16)))
 (k2 (decide (65536<=a)))
def je:ge:=sld ut
def Gs (v:ge)(α:Type)(K:KT α):Int->Int->Bool->Op α:=fun b c e=>v α b c (fun a d=>nh (K .normal) a d) (fun a=>II (K .normal) b c a)
theorem ZA:∀ (α:Type) (K:KT α),Gs je α K=yD.unc fun σ=>aF Pg Ek0 br CN K σ:=bR (fun α K=>by kernel_rfl)
def Y0:ah:=ah.sub [1,0] (emb H9)
abbrev oD:Type 1:=(α:Type)->Int->(Int->Op α)->(Bool->Op α)->Op α
def uB (α:Type)(a:Int)(k1:Int->Op α)(k2:Bool->Op α):Op α:=
 cK (decide (4294967296<=a))
 (k1 (Int.fdiv a (2 ^ 32)))
 (k2 (decide (4294967296<=a)))
def jn:oD:=sld uB
def G7 (v:oD)(α:Type)(K:KT α):Int->Int->Op α:=fun b c=>v α b (fun a=>nh (K .normal) a 32) (fun a=>aa4 (K .normal) b c a)
theorem aaI:∀ (α:Type) (K:KT α),G7 jn α K=jx.unc fun σ=>aF Pg Ek0 br Y0 K σ:=bR (fun α K=>by kernel_rfl)
def iE (α:Type)(a:Int)(k1:Int->Op α):Op α:=
 jn α a
 (fun b=>ji α b 32
 (fun c d=>ie α c d
 (fun h i=>l7 (⟨#[0,1,2,2,3,3,3,3,4,4,4,4,4,4,4,4,5,5,5,5,5,5,5,5,5,5,5,5,5,5,5,5,6,6,6,6,6,6,6,6,6,6,6,6,6,6,6,6,6,6,6,6,6,6,6,6,6,6,6,6,6,6,6,6,7,7,7,7,7,7,7,7,7,7,7,7,7,7,7,7,7,7,7,7,7,7,7,7,7,7,7,7,7,7,7,7,7,7,7,7,7,7,7,7,7,7,7,7,7,7,7,7,7,7,7,7,7,7,7,7,7,7,7,7,7,7,7,7,8,8,8,8,8,8,8,8,8,8,8,8,8,8,8,8,8,8,8,8,8,8,8,8,8,8,8,8,8,8,8,8,8,8,8,8,8,8,8,8,8,8,8,8,8,8,8,8,8,8,8,8,8,8,8,8,8,8,8,8,8,8,8,8,8,8,8,8,8,8,8,8,8,8,8,8,8,8,8,8,8,8,8,8,8,8,8,8,8,8,8,8,8,8,8,8,8,8,8,8,8,8,8,8,8,8,8,8,8,8,8,8,8,8,8,8,8,8,8,8,8,8,8,8,8,8,8,8]⟩:BA) (IntKind.wrap .u8 (h))
 (fun j=>k1 (w64 (i+(w64 (((UInt8.toNat j:Nat):Int)))))))
 (fun D=>l7 (⟨#[0,1,2,2,3,3,3,3,4,4,4,4,4,4,4,4,5,5,5,5,5,5,5,5,5,5,5,5,5,5,5,5,6,6,6,6,6,6,6,6,6,6,6,6,6,6,6,6,6,6,6,6,6,6,6,6,6,6,6,6,6,6,6,6,7,7,7,7,7,7,7,7,7,7,7,7,7,7,7,7,7,7,7,7,7,7,7,7,7,7,7,7,7,7,7,7,7,7,7,7,7,7,7,7,7,7,7,7,7,7,7,7,7,7,7,7,7,7,7,7,7,7,7,7,7,7,7,7,8,8,8,8,8,8,8,8,8,8,8,8,8,8,8,8,8,8,8,8,8,8,8,8,8,8,8,8,8,8,8,8,8,8,8,8,8,8,8,8,8,8,8,8,8,8,8,8,8,8,8,8,8,8,8,8,8,8,8,8,8,8,8,8,8,8,8,8,8,8,8,8,8,8,8,8,8,8,8,8,8,8,8,8,8,8,8,8,8,8,8,8,8,8,8,8,8,8,8,8,8,8,8,8,8,8,8,8,8,8,8,8,8,8,8,8,8,8,8,8,8,8,8,8,8,8,8,8]⟩:BA) (IntKind.wrap .u8 (c))
 (fun l=>k1 (w64 (d+(w64 (((UInt8.toNat l:Nat):Int))))))))
 (fun F=>g7 α b 32
 (fun m o=>l7 (⟨#[0,1,2,2,3,3,3,3,4,4,4,4,4,4,4,4,5,5,5,5,5,5,5,5,5,5,5,5,5,5,5,5,6,6,6,6,6,6,6,6,6,6,6,6,6,6,6,6,6,6,6,6,6,6,6,6,6,6,6,6,6,6,6,6,7,7,7,7,7,7,7,7,7,7,7,7,7,7,7,7,7,7,7,7,7,7,7,7,7,7,7,7,7,7,7,7,7,7,7,7,7,7,7,7,7,7,7,7,7,7,7,7,7,7,7,7,7,7,7,7,7,7,7,7,7,7,7,7,8,8,8,8,8,8,8,8,8,8,8,8,8,8,8,8,8,8,8,8,8,8,8,8,8,8,8,8,8,8,8,8,8,8,8,8,8,8,8,8,8,8,8,8,8,8,8,8,8,8,8,8,8,8,8,8,8,8,8,8,8,8,8,8,8,8,8,8,8,8,8,8,8,8,8,8,8,8,8,8,8,8,8,8,8,8,8,8,8,8,8,8,8,8,8,8,8,8,8,8,8,8,8,8,8,8,8,8,8,8,8,8,8,8,8,8,8,8,8,8,8,8,8,8,8,8,8,8]⟩:BA) (IntKind.wrap .u8 (m))
 (fun p=>k1 (w64 (o+(w64 (((UInt8.toNat p:Nat):Int)))))))
 (fun G=>l7 (⟨#[0,1,2,2,3,3,3,3,4,4,4,4,4,4,4,4,5,5,5,5,5,5,5,5,5,5,5,5,5,5,5,5,6,6,6,6,6,6,6,6,6,6,6,6,6,6,6,6,6,6,6,6,6,6,6,6,6,6,6,6,6,6,6,6,7,7,7,7,7,7,7,7,7,7,7,7,7,7,7,7,7,7,7,7,7,7,7,7,7,7,7,7,7,7,7,7,7,7,7,7,7,7,7,7,7,7,7,7,7,7,7,7,7,7,7,7,7,7,7,7,7,7,7,7,7,7,7,7,8,8,8,8,8,8,8,8,8,8,8,8,8,8,8,8,8,8,8,8,8,8,8,8,8,8,8,8,8,8,8,8,8,8,8,8,8,8,8,8,8,8,8,8,8,8,8,8,8,8,8,8,8,8,8,8,8,8,8,8,8,8,8,8,8,8,8,8,8,8,8,8,8,8,8,8,8,8,8,8,8,8,8,8,8,8,8,8,8,8,8,8,8,8,8,8,8,8,8,8,8,8,8,8,8,8,8,8,8,8,8,8,8,8,8,8,8,8,8,8,8,8,8,8,8,8,8,8]⟩:BA) (IntKind.wrap .u8 (b))
 (fun q=>k1 (w64 (32+(w64 (((UInt8.toNat q:Nat):Int)))))))))
 (fun H=>je α a 0
 (fun e g=>ie α e g
 (fun r s=>l7 (⟨#[0,1,2,2,3,3,3,3,4,4,4,4,4,4,4,4,5,5,5,5,5,5,5,5,5,5,5,5,5,5,5,5,6,6,6,6,6,6,6,6,6,6,6,6,6,6,6,6,6,6,6,6,6,6,6,6,6,6,6,6,6,6,6,6,7,7,7,7,7,7,7,7,7,7,7,7,7,7,7,7,7,7,7,7,7,7,7,7,7,7,7,7,7,7,7,7,7,7,7,7,7,7,7,7,7,7,7,7,7,7,7,7,7,7,7,7,7,7,7,7,7,7,7,7,7,7,7,7,8,8,8,8,8,8,8,8,8,8,8,8,8,8,8,8,8,8,8,8,8,8,8,8,8,8,8,8,8,8,8,8,8,8,8,8,8,8,8,8,8,8,8,8,8,8,8,8,8,8,8,8,8,8,8,8,8,8,8,8,8,8,8,8,8,8,8,8,8,8,8,8,8,8,8,8,8,8,8,8,8,8,8,8,8,8,8,8,8,8,8,8,8,8,8,8,8,8,8,8,8,8,8,8,8,8,8,8,8,8,8,8,8,8,8,8,8,8,8,8,8,8,8,8,8,8,8,8]⟩:BA) (IntKind.wrap .u8 (r))
 (fun t=>k1 (w64 (s+(w64 (((UInt8.toNat t:Nat):Int)))))))
 (fun I=>l7 (⟨#[0,1,2,2,3,3,3,3,4,4,4,4,4,4,4,4,5,5,5,5,5,5,5,5,5,5,5,5,5,5,5,5,6,6,6,6,6,6,6,6,6,6,6,6,6,6,6,6,6,6,6,6,6,6,6,6,6,6,6,6,6,6,6,6,7,7,7,7,7,7,7,7,7,7,7,7,7,7,7,7,7,7,7,7,7,7,7,7,7,7,7,7,7,7,7,7,7,7,7,7,7,7,7,7,7,7,7,7,7,7,7,7,7,7,7,7,7,7,7,7,7,7,7,7,7,7,7,7,8,8,8,8,8,8,8,8,8,8,8,8,8,8,8,8,8,8,8,8,8,8,8,8,8,8,8,8,8,8,8,8,8,8,8,8,8,8,8,8,8,8,8,8,8,8,8,8,8,8,8,8,8,8,8,8,8,8,8,8,8,8,8,8,8,8,8,8,8,8,8,8,8,8,8,8,8,8,8,8,8,8,8,8,8,8,8,8,8,8,8,8,8,8,8,8,8,8,8,8,8,8,8,8,8,8,8,8,8,8,8,8,8,8,8,8,8,8,8,8,8,8,8,8,8,8,8,8]⟩:BA) (IntKind.wrap .u8 (e))
 (fun w=>k1 (w64 (g+(w64 (((UInt8.toNat w:Nat):Int))))))))
 (fun J=>g7 α a 0
 (fun z A=>l7 (⟨#[0,1,2,2,3,3,3,3,4,4,4,4,4,4,4,4,5,5,5,5,5,5,5,5,5,5,5,5,5,5,5,5,6,6,6,6,6,6,6,6,6,6,6,6,6,6,6,6,6,6,6,6,6,6,6,6,6,6,6,6,6,6,6,6,7,7,7,7,7,7,7,7,7,7,7,7,7,7,7,7,7,7,7,7,7,7,7,7,7,7,7,7,7,7,7,7,7,7,7,7,7,7,7,7,7,7,7,7,7,7,7,7,7,7,7,7,7,7,7,7,7,7,7,7,7,7,7,7,8,8,8,8,8,8,8,8,8,8,8,8,8,8,8,8,8,8,8,8,8,8,8,8,8,8,8,8,8,8,8,8,8,8,8,8,8,8,8,8,8,8,8,8,8,8,8,8,8,8,8,8,8,8,8,8,8,8,8,8,8,8,8,8,8,8,8,8,8,8,8,8,8,8,8,8,8,8,8,8,8,8,8,8,8,8,8,8,8,8,8,8,8,8,8,8,8,8,8,8,8,8,8,8,8,8,8,8,8,8,8,8,8,8,8,8,8,8,8,8,8,8,8,8,8,8,8,8]⟩:BA) (IntKind.wrap .u8 (z))
 (fun B=>k1 (w64 (A+(w64 (((UInt8.toNat B:Nat):Int)))))))
 (fun L=>l7 (⟨#[0,1,2,2,3,3,3,3,4,4,4,4,4,4,4,4,5,5,5,5,5,5,5,5,5,5,5,5,5,5,5,5,6,6,6,6,6,6,6,6,6,6,6,6,6,6,6,6,6,6,6,6,6,6,6,6,6,6,6,6,6,6,6,6,7,7,7,7,7,7,7,7,7,7,7,7,7,7,7,7,7,7,7,7,7,7,7,7,7,7,7,7,7,7,7,7,7,7,7,7,7,7,7,7,7,7,7,7,7,7,7,7,7,7,7,7,7,7,7,7,7,7,7,7,7,7,7,7,8,8,8,8,8,8,8,8,8,8,8,8,8,8,8,8,8,8,8,8,8,8,8,8,8,8,8,8,8,8,8,8,8,8,8,8,8,8,8,8,8,8,8,8,8,8,8,8,8,8,8,8,8,8,8,8,8,8,8,8,8,8,8,8,8,8,8,8,8,8,8,8,8,8,8,8,8,8,8,8,8,8,8,8,8,8,8,8,8,8,8,8,8,8,8,8,8,8,8,8,8,8,8,8,8,8,8,8,8,8,8,8,8,8,8,8,8,8,8,8,8,8,8,8,8,8,8,8]⟩:BA) (IntKind.wrap .u8 (a))
 (fun C=>k1 (w64 (0+(w64 (((UInt8.toNat C:Nat):Int)))))))))
def gq:dl:=sld iE
def xM:PT (List DV):=pA [pV false [(dI .u64)]]
def Qa (v:dl)(α:Type)(k:RT α):Int->Op α:=fun a=>v α a (fun b=>bu k b)
def aez:ah:=(ah.put (.m [⟨jx,G7 jn⟩]) [1] (ah.put (.m [⟨jx,HV ji⟩,⟨yD,Gs je⟩]) [1,1] (ah.put (.m [⟨jx,Hq ie⟩,⟨yK,GM g7⟩]) [1,1,1] (emb H9))))
theorem abg:al Pg 216 25 ⟨xM,Qa gq⟩:=iZ ek0 (ag Tryz.func216 (by kernel_rfl)) br aez ((aA _ _).trans ((aA _ _).trans ((aA _ _).trans (aG _)))) (bc (by kernel_rfl) (bc (by kernel_rfl) (bc (by kernel_rfl) (aK H9) ⟨WW,aaK,TT⟩) ⟨SZ,ZA,TT⟩) ⟨aaI,TT⟩) fun _ _=>by kernel_rfl
def aoV:TG:=[tT 0 [0,1],tT 1 [0,1,6],tT 2 [0,1,6,7],tT 3 [0,1,6,7,8],tT 4 [0,1,6,7,8,9],tT 5 [0,1,6,7,8,9,10],tT 6 [0,1,6,7,9,11],tT 7 [0,1,6,7,9,11,12],tT 8 [0,1,6,7,9,12,13],tT 9 [0,1,7,9,12,13],tT 10 [0,1,4],tT 11 [4,5]]
def apG:au:=aB Pg Tryz.f184 aoV aR
def RZ:PT (List RV):=pRs [pR false [rD (dI .u64)],pR false [rD (dI .u64)]]
def Ch {β:Type}(g:List RV->β):Int->Int->β:=RZ.unc g
def Kv (α:Type)(a b:Int)(k1:Int->Int->Op α):Op α:=
 k1 (IntKind.wrap .u64 ((IntKind.wrap .u64 ((IntKind.wrap .u64 ((Int.fdiv a (2 ^ 32))*(Int.fdiv b (2 ^ 32))))+(Int.fdiv (IntKind.wrap .u64 ((IntKind.wrap .u64 ((Int.fdiv a (2 ^ 32))*(lI .u64 b 4294967295)))+(Int.fdiv (IntKind.wrap .u64 ((lI .u64 a 4294967295)*(lI .u64 b 4294967295))) (2 ^ 32)))) (2 ^ 32))))+(Int.fdiv (IntKind.wrap .u64 ((lI .u64 (IntKind.wrap .u64 ((IntKind.wrap .u64 ((Int.fdiv a (2 ^ 32))*(lI .u64 b 4294967295)))+(Int.fdiv (IntKind.wrap .u64 ((lI .u64 a 4294967295)*(lI .u64 b 4294967295))) (2 ^ 32)))) 4294967295)+(IntKind.wrap .u64 ((lI .u64 a 4294967295)*(Int.fdiv b (2 ^ 32)))))) (2 ^ 32)))) (IntKind.wrap .u64 (a*b))
def uI:kw:=sld Kv
def PE:PT (List DV):=pA [pV false [(dI .u64)],pV false [(dI .u64)]]
def NN (v:kw)(α:Type)(k:RT α):Int->Int->Op α:=fun a b=>v α a b (fun c d=>Ch k c d)
theorem acL:al Pg 184 51 ⟨PE,NN uI⟩:=iP ek0 apG (ag Tryz.func184 (by kernel_rfl)) br fun _ _=>by kernel_rfl
def aoo:TG:=[tT 0 [0],tT 1 [2]]
def aon:au:=aB Pg Tryz.f142 aoo aR
def NI (α:Type)(a:Int)(k1:Int->Op α):Op α:=
 k1 (if (w64 (0 - a)) > a then (w64 (0 - a)) else a)
def nw:dl:=sld NI
def LC (v:dl)(α:Type)(k:RT α):Int->Op α:=fun a=>v α a (fun b=>bu k b)
theorem afh:al Pg 142 7 ⟨bj,LC nw⟩:=iP ek0 aon (ag Tryz.func142 (by kernel_rfl)) br fun _ _=>by kernel_rfl
def ag2:SG:=[(6,iT),(8,iT),(11,iT),(13,iT)]
def aq7:TG:=[tT 0 [2,3,4],tT 1 [4]]
def arh:au:=aB Pg Tryz.f178 aq7 aR
def KH (α:Type)(a b c d:Int)(k1:Int->Int->Op α):Op α:=
 k1 (w64 (a - c)) (w64 (b - d))
def D8:jY:=sld KH
def MW (v:jY)(α:Type)(k:RT α):I4 (Op α):=fun a b c d=>v α a b c d (fun e g=>cN k e g)
theorem agc:al Pg 178 16 ⟨jZ,MW D8⟩:=iP ek0 arh (ag Tryz.func178 (by kernel_rfl)) ag2 fun _ _=>by kernel_rfl
def aqb:TG:=[tT 0 [0],tT 1 [2]]
def amr:au:=aB Pg Tryz.f183 aqb aR
def RK:PT (List RV):=pRs [pR false [rD (dF .f64)]]
def uH {β:Type}(g:List RV->β):Nat->β:=RK.unc g
abbrev xw:Type 1:=(α:Type)->Nat->(Nat->Op α)->Op α
def Qn (α:Type)(a:Nat)(k1:Nat->Op α):Op α:=
 flK ((FloatKind.format .f64).sqrt a)
 (fun b=>k1 b)
def E5:xw:=sld Qn
def jK:PT (List DV):=pA [pV false [(dF .f64)]]
def Ob (v:xw)(α:Type)(k:RT α):Nat->Op α:=fun a=>v α a (fun b=>uH k b)
theorem afA:al Pg 183 5 ⟨jK,Ob E5⟩:=iP ek0 amr (ag Tryz.func183 (by kernel_rfl)) br fun _ _=>by kernel_rfl
def ao2:SG:=[(4,iT),(6,iT),(9,iT),(11,iT)]
def aoh:TG:=[tT 0 [1],tT 1 [2]]
def am5:au:=aB Pg Tryz.f175 aoh aR
def sK (α:Type)(a b:Int)(k1:Int->Op α):Op α:=
 k1 (w64 ((w64 (a*a))+(w64 (b*b))))
def ja:dt:=sld sK
def My (v:dt)(α:Type)(k:RT α):Int->Int->Op α:=fun a b=>v α a b (fun c=>bu k c)
theorem agE:al Pg 175 14 ⟨bD,My ja⟩:=iP ek0 am5 (ag Tryz.func175 (by kernel_rfl)) ao2 fun _ _=>by kernel_rfl
def apw:SG:=[(6,iT),(8,iT),(11,iT),(13,iT),(17,iT),(19,iT),(22,iT),(24,iT)]
def anH:TG:=[tT 0 [2,3,4],tT 1 [4]]
def amF:au:=aB Pg Tryz.f170 anH aR
def DU (α:Type)(a b c d:Int)(k1:Int->Int->Op α):Op α:=
 k1 (w64 ((w64 (a*c)) - (w64 (b*d)))) (w64 ((w64 (a*d))+(w64 (b*c))))
def uO:jY:=sld DU
def Oz (v:jY)(α:Type)(k:RT α):I4 (Op α):=fun a b c d=>v α a b c d (fun e g=>cN k e g)
theorem aeE:al Pg 170 28 ⟨jZ,Oz uO⟩:=iP ek0 amF (ag Tryz.func170 (by kernel_rfl)) apw fun _ _=>by kernel_rfl
def aqF:TG:=[tT 0 [2,3,4],tT 1 [4]]
def amR:au:=aB Pg Tryz.f168 aqF aR
def EK (α:Type)(a b c d:Int)(k1:Int->Int->Op α):Op α:=
 k1 (w64 (a+c)) (w64 (b+d))
def uq:jY:=sld EK
def OH (v:jY)(α:Type)(k:RT α):I4 (Op α):=fun a b c d=>v α a b c d (fun e g=>cN k e g)
theorem aee:al Pg 168 16 ⟨jZ,OH uq⟩:=iP ek0 amR (ag Tryz.func168 (by kernel_rfl)) ag2 fun _ _=>by kernel_rfl
def GV:SG:=[(9,iT),(12,iT),(15,iS 2)]
def aph:TG:=[tT 0 [1,2,4],tT 1 [2,4,5,6],tT 2 [2,4,5,6,7],tT 3 [2,4,5,6],tT 4 [2,4,5,6],tT 5 [4]]
def aov:TG:=[tT 2 [2,4,5,6]]
def M1:au:=aB Pg Tryz.f181 aph aov
def tO:OT:=tdC (ah.sub [1,0,1,0] (emb M1))
def AY:PT St:=pS [sP 2,sP 4,sI 5,sI 6] [az 2 [xI,xI],az 4 [xI,xI]]
def zo {β:Type}(g:St->β):I6 β:=AY.unc g
def SN:PT St:=pS [sP 2,sP 4,sI 5,sI 6,sY 7 dB] [az 2 [xI,xI],az 4 [xI,xI]]
def rN {β:Type}(g:St->β):Int->Int->Bool->I4 β:=SN.unc g
def rV:ah:=ah.sub [1,0,1,0,0] (emb M1)
def nH (α:Type)(b a c d:Int)(kn:Int->Int->Int->Op α)(k1:Int->Bool->Int->Int->Op α):Op α:=
 cK (decide (a < b))
 (kn (w64 (a+1)) (w64 (0 - d)) c)
 (k1 a (decide (a < b)) c d)
def n8 (α:Type)(a:Int)(k1:Int->Bool->Int->Int->Op α):Nat->Int->Int->Int->Op α
 | 0,_,_,_=>none
 | n+1,b,c,d=>nH α a b c d (n8 α a k1 n) k1
def vr (α:Type)(a:Int)(k1:Int->Bool->Int->Int->Op α)(b c d:Int):Op α:=n8 α a k1 aN b c d
abbrev B6:Type 1:=(α:Type)->Int->(Int->Bool->Int->Int->Op α)->Int->Int->Int->Op α
def ny:B6:=sld vr
def Gv (v:B6)(α:Type)(K:KT α):I6 (Op α):=fun a b c d e g=>v α a (fun h i j l=>rN (K (.exit 0)) a h i j l e g) b c d
theorem XB (α:Type)(K:KT α)(Kn:SK α)(a b c d e g:Int):zo (fun σ=>aF Pg Ek0 GV rV (cX (fun σ=>bW tO σ Kn) K) σ) a b c d e g=nH α a b c d (fun b c d=>zo Kn a b c d e g) (fun h i j l=>rN (K (.exit 0)) a h i j l e g):=by kernel_rfl
theorem UK (α:Type)(K:KT α):∀ (n:Nat) (a b c d e g:Int),n8 α a (fun h i j l=>rN (K (.exit 0)) a h i j l e g) n b c d=zo (aS (aF Pg Ek0 GV rV) tO K n) a b c d e g:=by
 intro n
 induction n with
 | zero=>intros;rfl
 | succ n ih=>intro a b c d e g;exact (congrArg (fun kn=>nH α a b c d kn (fun h i j l=>rN (K (.exit 0)) a h i j l e g)) (funext fun b=>funext fun c=>funext fun d=>ih a b c d e g)).trans (XB α K (aS (aF Pg Ek0 GV rV) tO K n) a b c d e g).symm
theorem U1:∀ (α:Type) (K:KT α),Gv ny α K=AY.unc fun σ=>aS (aF Pg Ek0 GV rV) tO K aN σ:=bR (fun α K=>funext fun a=>funext fun b=>funext fun c=>funext fun d=>funext fun e=>funext fun g=>UK α K aN a b c d e g)
abbrev jV:Type 1:=(α:Type)->Int->Int->Int->(Int->Int->Op α)->Op α
def Ez (α:Type)(a b c:Int)(k1:Int->Int->Op α):Op α:=
 ny α c
 (fun g h d e=>k1 d e) 0 a b
def jt:jV:=sld Ez
def o9:PT (List DV):=pA [pV true [(dI .i64),(dI .i64)],vI]
def QB (v:jV)(α:Type)(k:RT α):Int->Int->Int->Op α:=fun a b c=>v α a b c (fun d e=>cN k d e)
def ac9:ah:=(ah.put (.m [⟨AY,Gv ny⟩]) [1,0,1,0] (emb M1))
theorem ab2:al Pg 181 16 ⟨o9,QB jt⟩:=iZ ek0 (ag Tryz.func181 (by kernel_rfl)) GV ac9 ((aA _ _).trans (aG _)) (bK (td:=tO) (by kernel_rfl) (aK M1) ⟨U1,TT⟩) fun _ _=>by kernel_rfl
def aq3:TG:=[tT 0 [0,2],tT 1 [2]]
def aox:au:=aB Pg Tryz.f188 aq3 aR
abbrev Ns:Type 1:=(α:Type)->Nat->Nat->(Int->Int->Op α)->Op α
def NC (α:Type)(a b:Nat)(k1:Int->Int->Op α):Op α:=
 ivK (f2i .f64 a .i64)
 (fun c=>ivK (f2i .f64 b .i64)
 (fun d=>k1 c d))
def EO:Ns:=sld NC
def LQ:PT (List DV):=pA [pV false [(dX .f64)]]
def O4 (v:Ns)(α:Type)(k:RT α):Nat->Nat->Op α:=fun a b=>v α a b (fun c d=>cN k c d)
theorem afz:al Pg 188 10 ⟨LQ,O4 EO⟩:=iP ek0 aox (ag Tryz.func188 (by kernel_rfl)) br fun _ _=>by kernel_rfl
def amK:TG:=[tT 0 [0],tT 1 [2]]
def apt:au:=aB Pg Tryz.f187 amK aR
def E7 (α:Type)(a:Nat)(k1:Nat->Op α):Op α:=
 k1 (Int.toNat (xp .u64 ((a:Nat):Int) 9223372036854775808))
def uf:xw:=sld E7
def Lo (v:xw)(α:Type)(k:RT α):Nat->Op α:=fun a=>v α a (fun b=>uH k b)
theorem acO:al Pg 187 7 ⟨jK,Lo uf⟩:=iP ek0 apt (ag Tryz.func187 (by kernel_rfl)) br fun _ _=>by kernel_rfl
def anI:TG:=[tT 0 [0],tT 1 [2],tT 2 [2]]
def aoK:au:=aB Pg Tryz.f204 anI aR
def Rj:PT (List RV):=pRs [pR false [rD (aui .f64)]]
def QZ {β:Type}(g:List RV->β):β:=Rj.unc g
abbrev PH:Type 1:=(α:Type)->Nat->(Op α)->(Nat->Op α)->Op α
def QF (α:Type)(a:Nat)(k1:Op α)(k2:Nat->Op α):Op α:=
 cK (bB .f64 a)
 (k1)
 (k2 (ml a))
def EH:PH:=sld QF
def Nq (v:PH)(α:Type)(k:RT α):Nat->Op α:=fun a=>v α a (QZ k ) (fun b=>uH k b)
theorem ago:al Pg 204 7 ⟨jK,Nq EH⟩:=iP ek0 aoK (ag Tryz.func204 (by kernel_rfl)) br fun _ _=>by kernel_rfl
def ao3:TG:=[tT 0 [0],tT 1 [3],tT 2 [2],tT 3 [2]]
def ao5:au:=aB Pg Tryz.f172 ao3 aR
abbrev L6:Type 1:=(α:Type)->Bool->(Int->Op α)->Op α
def xX (α:Type)(a:Bool)(k1:Int->Op α):Op α:=
 cK a
 (k1 1)
 (k1 0)
def jw:L6:=sld xX
def O9:PT (List DV):=pA [pV false [dB]]
def Ni (v:L6)(α:Type)(k:RT α):Bool->Op α:=fun a=>v α a (fun b=>bu k b)
theorem acz:al Pg 172 4 ⟨O9,Ni jw⟩:=iP ek0 ao5 (ag Tryz.func172 (by kernel_rfl)) br fun _ _=>by kernel_rfl
def arZ:SG:=[(11,[.cpx .f64,.int .i64])]
def asE:TG:=[tT 0 [0,2,4,6],tT 1 [0,4,6],tT 2 [0,6]]
def ata:au:=aB Pg Tryz.f83 asE aR
def YC:PT (List RV):=pRs [pR true [rD (dX .f64),rD (dI .i64)],pR true [rD (dI .i64),rD (dI .i64),rD (dI .i64),rD (dI .i64),rD (dI .i64),rD (dI .i64),rD (dI .i64),rD dL,rD (dI .i64),rD (dI .i64)]]
def dj {β:Type}(g:List RV->β):Nat->Nat->Int->Int->Int->Int->Int->Int->Int->Int->ae->Int->Int->β:=YC.unc g
def kh (α:Type)(k1:Op α):Op α:=
 k1
def fE:eW:=sld kh
def VI:PT (List DV):=pA [pV false [(dMr [(dI .i64),(dI .i64),(dI .i64),(dI .i64),(dI .i64),(dI .i64),(dI .i64),dL,(dI .i64),(dI .i64)] 0)],pV true [(dX .f64),(dI .i64)],vI]
def aaZ (v:eW)(α:Type)(k:RT α):Int->Int->Int->Int->Int->Int->Int->ae->Int->Int->Nat->Nat->Int->Int->Op α:=fun q a b c d e g h i j l m o p=>v α (dj k l m o p a b c d e g h i j)
theorem aib:al Pg 83 12 ⟨VI,aaZ fE⟩:=iP ek0 ata (ag Tryz.func83 (by kernel_rfl)) arZ fun _ _=>by kernel_rfl
def an0:TG:=[tT 0 [1],tT 1 [2]]
def apF:au:=aB Pg Tryz.f201 an0 aR
def Sp:PT (List RV):=pRs [pR false [rD (dX .f64)]]
def QU {β:Type}(g:List RV->β):Nat->Nat->β:=Sp.unc g
abbrev Lf:Type 1:=(α:Type)->Int->Int->(Nat->Nat->Op α)->Op α
def ML (α:Type)(a b:Int)(k1:Nat->Nat->Op α):Op α:=
 k1 (FloatKind.nearest .f64 a) (FloatKind.nearest .f64 b)
def Fz:Lf:=sld ML
def Kh (v:Lf)(α:Type)(k:RT α):Int->Int->Op α:=fun a b=>v α a b (fun c d=>QU k c d)
theorem agD:al Pg 201 10 ⟨bD,Kh Fz⟩:=iP ek0 apF (ag Tryz.func201 (by kernel_rfl)) alh fun _ _=>by kernel_rfl
def auA:TG:=[tT 0 [0,1],tT 1 [0,1,5],tT 2 [5,12],tT 3 [5],tT 4 [4]]
def atr:au:=aB Pg Tryz.f88 auA aR
def JL (α:Type)(b a:Int)(k1:Int->Op α):Op α:=
 gK (a != 0) (gK (a != 0) (cK (decide ((Int.tmod b a) < 0))
 (k1 (w64 ((w64 (Int.tdiv b a)) - 1)))
 (k1 (w64 (Int.tdiv b a)))))
def jc:dt:=sld JL
def Uc (v:dt)(α:Type)(k:RT α):Int->Int->Op α:=fun a b=>v α a b (fun c=>bu k c)
theorem ai0:al Pg 88 16 ⟨dr,Uc jc⟩:=iP ek0 atr (ag Tryz.func88 (by kernel_rfl)) br fun _ _=>by kernel_rfl
def anT:TG:=[tT 0 [0,1,2],tT 1 [6]]
def aq0:au:=aB Pg Tryz.f146 anT aR
abbrev dp:Type 1:=(α:Type)->Int->Int->Int->(Bool->Op α)->Op α
def EN (α:Type)(a b c:Int)(k1:Bool->Op α):Op α:=
 cK (decide (b<=a))
 (k1 (decide (a<=c)))
 (k1 false)
def kq:dp:=sld EN
def fR:PT (List DV):=pA [vI,vI,vI]
def Qr (v:dp)(α:Type)(k:RT α):Int->Int->Int->Op α:=fun a b c=>v α a b c (fun d=>bA k d)
theorem ad3:al Pg 146 15 ⟨fR,Qr kq⟩:=iP ek0 aq0 (ag Tryz.func146 (by kernel_rfl)) br fun _ _=>by kernel_rfl
def auc:TG:=[tT 0 [0,1],tT 1 [4]]
def aus:au:=aB Pg Tryz.f40 auc aR
def Z5 (α:Type)(b a:Int)(k1:Int->Op α):Op α:=
 gK (a != 0) (k1 (w64 (Int.tdiv (w64 ((w64 (b+a)) - 1)) a)))
def nx:dt:=sld Z5
def ZB (v:dt)(α:Type)(k:RT α):Int->Int->Op α:=fun a b=>v α a b (fun c=>bu k c)
theorem al5:al Pg 40 11 ⟨dr,ZB nx⟩:=iP ek0 aus (ag Tryz.func40 (by kernel_rfl)) br fun _ _=>by kernel_rfl
def ato:TG:=[tT 0 [0,1],tT 1 [4]]
def atI:au:=aB Pg Tryz.f39 ato aR
def VD (α:Type)(b a:Int)(k1:Int->Op α):Op α:=
 gK (a != 0) (k1 (w64 (Int.tdiv b a)))
def my:dt:=sld VD
def Y5 (v:dt)(α:Type)(k:RT α):Int->Int->Op α:=fun a b=>v α a b (fun c=>bu k c)
theorem alc:al Pg 39 8 ⟨dr,Y5 my⟩:=iP ek0 atI (ag Tryz.func39 (by kernel_rfl)) br fun _ _=>by kernel_rfl
def ar3:SG:=[(14,iT),(19,iT),(27,[.sl]),(34,[.sl]),(37,iS 5),(38,iS 5),(40,iS 2),(42,iT),(48,iT),(54,iT),(61,iT)]
def aub:TG:=[tT 0 [0,1,4],tT 1 [0,1,4,7],tT 2 [0,4,5],tT 3 [0,1,4,21],tT 4 [0,4,6],tT 5 [0,4,5],tT 6 [0,4,5]]
def asZ:au:=aB Pg Tryz.f82 aub aR
def Yd:PT (List RV):=pRs [pR true [rD (dI .i64),rD (dI .i64)],wI,pR true [rD (dI .i64),rD (dI .i64),rD (dI .i64),rD (dI .i64),rD (dI .i64),rD (dI .i64),rD (dI .i64),rD dL,rD (dI .i64),rD (dI .i64)]]
def Te {β:Type}(g:List RV->β):Int->Int->Int->Int->Int->Int->Int->Int->Int->Int->ae->Int->Int->β:=Yd.unc g
abbrev Xc:Type 1:=(α:Type)->Int->ae->Int->Int->Int->(Int->Int->Int->Op α)->Op α
def Vz (α:Type)(b:Int)(c:ae)(d e a:Int)(k1:Int->Int->Int->Op α):Op α:=
 cK (a == 0)
 (k1 b b 0)
 (cK (decide (a<=((List.length c:Nat):Int)))
 (gI c (w64 (a - 1)) [.int .i64,.int .i64,.int .i64,.int .i64,.int .i64]
 (fun g h j l i=>k1 g h i))
 (k1 d d e))
def A6:Xc:=sld Vz
def j5:PT (List DV):=pA [pV false [(dMr [(dI .i64),(dI .i64),(dI .i64),(dI .i64),(dI .i64),(dI .i64),(dI .i64),dL,(dI .i64),(dI .i64)] 0)],vI]
def Tg (v:Xc)(α:Type)(k:RT α):Int->Int->Int->Int->Int->Int->Int->ae->Int->Int->Int->Op α:=fun e a g h i j l b c d m=>v α a b c d m (fun o p q=>Te k o p q e a g h i j l b c d)
theorem amd:al Pg 82 62 ⟨j5,Tg A6⟩:=iP ek0 asZ (ag Tryz.func82 (by kernel_rfl)) ar3 fun _ _=>by kernel_rfl
def WS:SG:=[(9,[.sl]),(11,iS 2),(17,iT),(18,iT),(20,[.sl]),(22,[.sl]),(24,iS 5),(25,iS 5),(30,[.sl,.sl,.int .i64,.int .i64])]
def asg:TG:=[(0,⟨[1,2,4],true,[⟨true,4,0,30400,9⟩,⟨true,4,1,30401,5⟩],[]⟩),(1,⟨[1,2,4,5],true,[⟨true,4,0,30400,9⟩,⟨true,4,1,30401,5⟩],[]⟩),(2,⟨[2,4,5,13,14,15],true,[⟨true,4,0,30400,9⟩,⟨true,4,1,30401,5⟩],[]⟩),(3,⟨[2,4,5,13,14,15,16],true,[⟨true,4,0,30400,9⟩,⟨true,4,1,30401,5⟩],[]⟩),(4,⟨[2,4,5,7,13,14,15],true,[⟨true,4,0,30400,9⟩,⟨true,4,1,30401,5⟩],[]⟩),(5,⟨[2,4,5,13,14,15],true,[⟨true,4,0,30400,9⟩,⟨true,4,1,30401,5⟩],[]⟩),(6,⟨[2,4,5,13,14,15],true,[⟨true,4,0,30400,9⟩,⟨true,4,1,30401,5⟩],[]⟩),(7,⟨[4],true,[⟨true,4,0,30400,9⟩,⟨true,4,1,30401,5⟩],[]⟩)]
def atR:TG:=[(3,⟨[2,4,5,13,14,15],true,[⟨false,13,0,20013,1⟩,⟨true,2,0,30200,9⟩,⟨true,2,1,30201,5⟩,⟨true,4,0,30400,9⟩,⟨true,4,1,30401,5⟩,⟨true,5,0,30500,9⟩,⟨true,5,1,30501,5⟩],[]⟩)]
def adl:au:=aB Pg Tryz.f47 asg atR
def yQ:OT:=tdC (ah.sub [1,1,0,1,0] (emb adl))
def EV:PT St:=pS [sP 2,sP 4,sP 5,sY 13 dL,sI 14,sI 15] [az 2 [(cD dL),(cD dL),xI,xI,xI],az 4 [(bL 30400),(bL 30401),xI,xI],bM 30400 9,bM 30401 5,az 5 [(cD dL),(bL 30501),xI,xI],bM 30501 5]
def FP {β:Type}(g:St->β):ae->Int->Int->ae->ae->Int->Int->Int->Int->Int->ae->ae->ae->Int->Int->ae->β:=EV.unc g
def aeG:PT St:=pS [sP 2,sP 4,sP 5,sY 13 dL,sI 14,sI 15,sY 16 dB] [az 2 [(cD dL),(cD dL),xI,xI,xI],az 4 [(bL 30400),(bL 30401),xI,xI],bM 30400 9,bM 30401 5,az 5 [(cD dL),(bL 30501),xI,xI],bM 30501 5]
def xF {β:Type}(g:St->β):ae->Int->Int->Bool->ae->ae->Int->Int->Int->Int->Int->ae->ae->ae->Int->Int->ae->β:=aeG.unc g
def XL:PT (List RV):=pRs [pR true [rD dL,rO 5,rD (dI .i64),rD (dI .i64)]]
def XH {β:Type}(g:List RV->β):ae->ae->Int->Int->β:=XL.unc g
def wM:ah:=ah.sub [1,1,0,1,0,0] (emb adl)
def qR (α:Type)(j:ae)(c:Int)(l:ae)(a:Int)(b:ae)(kn:Int->ae->Op α)(k1:Int->Bool->ae->Op α):Op α:=
 cK (decide (a < c))
 (gI j a [.int .i64]
 (fun m=>gI l m [.int .i64,.int .i64,.int .i64,.int .i64,.int .i64]
 (fun d e g h i=>gK (dv 5 40 b [[DC.v (.int .i64 d),DC.v (.int .i64 e),DC.v (.int .i64 g),DC.v (.int .i64 h),DC.v (.int .i64 i)]]) (kn (w64 (a+1)) (b++[[DC.v (.int .i64 d),DC.v (.int .i64 e),DC.v (.int .i64 g),DC.v (.int .i64 h),DC.v (.int .i64 i)]])))))
 (k1 a (decide (a < c)) b)
def lM (α:Type)(a:ae)(b:Int)(c:ae)(k1:Int->Bool->ae->Op α):Nat->Int->ae->Op α
 | 0,_,_=>none
 | n+1,d,e=>qR α a b c d e (lM α a b c k1 n) k1
def It (α:Type)(a:ae)(b:Int)(c:ae)(k1:Int->Bool->ae->Op α)(d:Int)(e:ae):Op α:=lM α a b c k1 aN d e
abbrev HA:Type 1:=(α:Type)->ae->Int->ae->(Int->Bool->ae->Op α)->Int->ae->Op α
def xP:HA:=sld It
def L0 (v:HA)(α:Type)(K:KT α):ae->Int->Int->ae->ae->Int->Int->Int->Int->Int->ae->ae->ae->Int->Int->ae->Op α:=fun a b d e c g h i j l m o p q r s=>v α a b c (fun t w z=>xF (K (.exit 0)) a b t w e c g h i j l m o p q r z) d s
theorem agI (α:Type)(K:KT α)(Kn:SK α)(a:ae)(b c:Int)(g d:ae)(h i j l m:Int)(o p q:ae)(r s:Int)(e:ae):FP (fun σ=>aF Pg Ek0 WS wM (cX (fun σ=>bW yQ σ Kn) K) σ) a b c g d h i j l m o p q r s e=qR α a b d c e (fun c e=>FP Kn a b c g d h i j l m o p q r s e) (fun t w z=>xF (K (.exit 0)) a b t w g d h i j l m o p q r s z):=by kernel_rfl
theorem abd (α:Type)(K:KT α):∀ (n:Nat) (a:ae) (b d:Int) (g c:ae) (h i j l m:Int) (o p q:ae) (r s:Int) (e:ae),lM α a b c (fun t w z=>xF (K (.exit 0)) a b t w g c h i j l m o p q r s z) n d e=FP (aS (aF Pg Ek0 WS wM) yQ K n) a b d g c h i j l m o p q r s e:=by
 intro n
 induction n with
 | zero=>intros;rfl
 | succ n ih=>intro a b d g c h i j l m o p q r s e;exact (congrArg (fun kn=>qR α a b c d e kn (fun t w z=>xF (K (.exit 0)) a b t w g c h i j l m o p q r s z)) (funext fun d=>funext fun e=>ih a b d g c h i j l m o p q r s e)).trans (agI α K (aS (aF Pg Ek0 WS wM) yQ K n) a b d g c h i j l m o p q r s e).symm
theorem afe:∀ (α:Type) (K:KT α),L0 xP α K=EV.unc fun σ=>aS (aF Pg Ek0 WS wM) yQ K aN σ:=bR (fun α K=>funext fun a=>funext fun b=>funext fun c=>funext fun d=>funext fun e=>funext fun g=>funext fun h=>funext fun i=>funext fun j=>funext fun l=>funext fun m=>funext fun o=>funext fun p=>funext fun q=>funext fun r=>funext fun s=>abd α K aN a b c d e g h i j l m o p q r s)
abbrev XU:Type 1:=(α:Type)->ae->ae->(ae->Op α)->Op α
def Ys (α:Type)(b a:ae)(k1:ae->Op α):Op α:=
 xP α a ((List.length a:Nat):Int) b
 (fun d e c=>k1 c) 0 ([]:ae)
def IF:XU:=sld Ys
def Zn:PT (List DV):=pA [pV true [dL,dL,(dI .i64),(dI .i64),(dI .i64)],pV false [dL]]
def XC (v:XU)(α:Type)(k:RT α):ae->ae->Int->Int->Int->ae->Op α:=fun a b c d h e=>v α b e (fun g=>XH k a g c d)
def alu:ah:=(ah.put (.m [⟨EV,L0 xP⟩]) [1,1,0,1,0] (emb adl))
theorem akc:al Pg 47 31 ⟨Zn,XC IF⟩:=iZ ek0 (ag Tryz.func47 (by kernel_rfl)) WS alu ((aA _ _).trans (aG _)) (bK (td:=yQ) (by kernel_rfl) (aK adl) ⟨afe,TT⟩) fun _ _=>by kernel_rfl
def asA:TG:=[tT 0 [2,3],tT 1 [4]]
def arS:au:=aB Pg Tryz.f46 asA aR
def ZJ:PT (List RV):=pRs [pR false [rD (dFn 95 [(dP [(dI .i64)] 0),(dP [(dI .i64)] 0)])]]
def Xj {β:Type}(g:List RV->β):Int->Int->β:=ZJ.unc g
def Tm (α:Type)(k1:Op α):Op α:=
 k1
def OQ:eW:=sld Tm
def WX (v:eW)(α:Type)(k:RT α):Int->Int->Op α:=fun a b=>v α (Xj k a b)
theorem aie:al Pg 46 6 ⟨dr,WX OQ⟩:=iP ek0 arS (ag Tryz.func46 (by kernel_rfl)) br fun _ _=>by kernel_rfl
def amj:TG:=[tT 0 [0,1,2],tT 1 [6]]
def apJ:au:=aB Pg Tryz.f110 amj aR
def Qy (α:Type)(a b c:Int)(k1:Bool->Op α):Op α:=
 cK (decide (b<=a))
 (k1 (decide (a<=c)))
 (k1 false)
def ke:dp:=sld Qy
def K5 (v:dp)(α:Type)(k:RT α):Int->Int->Int->Op α:=fun a b c=>v α a b c (fun d=>bA k d)
theorem af2:al Pg 110 15 ⟨fR,K5 ke⟩:=iP ek0 apJ (ag Tryz.func110 (by kernel_rfl)) br fun _ _=>by kernel_rfl
def asT:SG:=[(8,iT),(10,iS 2),(12,iT),(14,iS 2),(16,[.sl]),(18,iS 2)]
def arW:TG:=[(0,⟨[3,4,5,6],true,[⟨true,6,6,30606,5⟩],[]⟩),(1,⟨[6],true,[⟨true,6,6,30606,5⟩],[]⟩)]
def arG:au:=aB Pg Tryz.f71 arW aR
def VM:PT (List RV):=pRs [pR true [rD (dI .i64),rD (dI .i64),rD (dI .i64),rD (dI .i64),rD (dI .i64),rD (dI .i64),rD dL,rD (dI .i64),rD (dI .i64)]]
def Wu {β:Type}(g:List RV->β):Int->Int->Int->Int->Int->Int->ae->Int->Int->β:=VM.unc g
def EL (α:Type)(k1:Op α):Op α:=
 k1
def v6:eW:=sld EL
def S6:PT (List DV):=pA [pV true [dL,dL,(dI .i64),(dI .i64)],pV true [(dI .i64),(dI .i64),(dI .i64),(dI .i64),(dI .i64),(dI .i64),(dI .i64),(dI .i64),(dI .i64)],pV true [(dI .i64),(dI .i64),(dI .i64),(dI .i64)]]
def aa1 (v:eW)(α:Type)(k:RT α):ae->ae->I15 (Op α):=fun l a b c m d e o p q r s t g h i j=>v α (Wu k e i j d g h a b c)
theorem aiL:al Pg 71 20 ⟨S6,aa1 v6⟩:=iP ek0 arG (ag Tryz.func71 (by kernel_rfl)) asT fun _ _=>by kernel_rfl
def arV:SG:=[(4,iS 2),(6,iS 2)]
def atW:TG:=[tT 0 [1,2],tT 1 [2]]
def asb:au:=aB Pg Tryz.f72 atW aR
def Fy (α:Type)(k1:Op α):Op α:=
 k1
def wn:eW:=sld Fy
def nL:PT (List DV):=pA [pV true [(dI .i64),(dI .i64),(dI .i64),(dI .i64),(dI .i64),(dI .i64),(dI .i64),(dI .i64),(dI .i64)]]
def aaj (v:eW)(α:Type)(k:RT α):I9 (Op α):=fun e g h a b c d i j=>v α (ug k c d a b)
theorem alp:al Pg 72 8 ⟨nL,aaj wn⟩:=iP ek0 asb (ag Tryz.func72 (by kernel_rfl)) arV fun _ _=>by kernel_rfl
def asU:TG:=[tT 0 [0,1,2],tT 1 [6]]
def as1:au:=aB Pg Tryz.f94 asU aR
def Zb (α:Type)(a b c:Int)(k1:Bool->Op α):Op α:=
 cK (decide (b<=a))
 (k1 (decide (a<=c)))
 (k1 false)
def lX:dp:=sld Zb
def Tt (v:dp)(α:Type)(k:RT α):Int->Int->Int->Op α:=fun a b c=>v α a b c (fun d=>bA k d)
theorem aii:al Pg 94 15 ⟨fR,Tt lX⟩:=iP ek0 as1 (ag Tryz.func94 (by kernel_rfl)) br fun _ _=>by kernel_rfl
def arL:TG:=[tT 0 [0],(1,⟨[2],true,[⟨false,2,0,20002,5⟩],[]⟩)]
def aue:au:=aB Pg Tryz.f10 arL aR
def YM:PT (List RV):=pRs [pR false [rO 5]]
def Th {β:Type}(g:List RV->β):ae->β:=YM.unc g
def Zr (α:Type)(a:ae)(k1:ae->Op α):Op α:=
 gK (dv 5 40 ([]:ae) a) (k1 (([]:ae)++a))
def Hc:En:=sld Zr
def aaF (v:En)(α:Type)(k:RT α):ae->Op α:=fun a=>v α a (fun b=>Th k b)
theorem alP:al Pg 10 6 ⟨oc,aaF Hc⟩:=iP ek0 aue (ag Tryz.func10 (by kernel_rfl)) br fun _ _=>by kernel_rfl
def anC:TG:=[tT 0 [0],tT 1 [2]]
def arm:au:=aB Pg Tryz.f190 anC aR
abbrev dk:Type 1:=(α:Type)->Int->(Bool->Op α)->Op α
def PR (α:Type)(a:Int)(k1:Bool->Op α):Op α:=
 cK (a == 0)
 (k1 true)
 (k1 (a == 1))
def A5:dk:=sld PR
def Pd (v:dk)(α:Type)(k:RT α):Int->Op α:=fun a=>v α a (fun b=>bA k b)
theorem adF:al Pg 190 9 ⟨bj,Pd A5⟩:=iP ek0 arm (ag Tryz.func190 (by kernel_rfl)) br fun _ _=>by kernel_rfl
def auy:TG:=[tT 0 [0,1,2],tT 1 [6]]
def atF:au:=aB Pg Tryz.f18 auy aR
def Tr (α:Type)(a b c:Int)(k1:Bool->Op α):Op α:=
 cK (decide (b<=a))
 (k1 (decide (a<=c)))
 (k1 false)
def iq:dp:=sld Tr
def ZG (v:dp)(α:Type)(k:RT α):Int->Int->Int->Op α:=fun a b c=>v α a b c (fun d=>bA k d)
theorem ajV:al Pg 18 15 ⟨fR,ZG iq⟩:=iP ek0 atF (ag Tryz.func18 (by kernel_rfl)) br fun _ _=>by kernel_rfl
def atj:SG:=[(7,iT),(10,iT),(12,iT)]
def aul:TG:=[tT 0 [1,2,4],tT 1 [4,5],tT 2 [4]]
def atQ:au:=aB Pg Tryz.f11 aul aR
noncomputable abbrev Lk1:List bC:=⟨19,14,[⟨dr,UV Cu⟩]⟩::⟨119,9,[⟨bD,Lx eG⟩]⟩::⟨161,9,[⟨bD,NS mg⟩]⟩::⟨82,62,[⟨j5,Tg A6⟩]⟩::⟨146,15,[⟨fR,Qr kq⟩]⟩::⟨216,25,[⟨xM,Qa gq⟩]⟩::⟨178,16,[⟨jZ,MW D8⟩]⟩::⟨88,16,[⟨dr,Uc jc⟩]⟩::⟨183,5,[⟨jK,Ob E5⟩]⟩::⟨168,16,[⟨jZ,OH uq⟩]⟩::⟨187,7,[⟨jK,Lo uf⟩]⟩::⟨110,15,[⟨fR,K5 ke⟩]⟩::⟨94,15,[⟨fR,Tt lX⟩]⟩::⟨10,6,[⟨oc,aaF Hc⟩]⟩::⟨18,15,[⟨fR,ZG iq⟩]⟩::⟨215,11,[⟨bj,Qq uk⟩]⟩::⟨175,14,[⟨bD,My ja⟩]⟩::⟨181,16,[⟨o9,QB jt⟩]⟩::⟨204,7,[⟨jK,Nq EH⟩]⟩::⟨201,10,[⟨bD,Kh Fz⟩]⟩::⟨190,9,[⟨bj,Pd A5⟩]⟩::⟨184,51,[⟨PE,NN uI⟩]⟩::⟨142,7,[⟨bj,LC nw⟩]⟩::⟨188,10,[⟨LQ,O4 EO⟩]⟩::⟨172,4,[⟨O9,Ni jw⟩]⟩::⟨174,9,[⟨bD,OP EB⟩]⟩::⟨170,28,[⟨jZ,Oz uO⟩]⟩::⟨83,12,[⟨VI,aaZ fE⟩]⟩::⟨72,8,[⟨nL,aaj wn⟩]⟩::⟨71,20,[⟨S6,aa1 v6⟩]⟩::⟨133,13,[⟨PK,Nt zN⟩]⟩::⟨39,8,[⟨dr,Y5 my⟩]⟩::⟨40,11,[⟨dr,ZB nx⟩]⟩::⟨123,2,[⟨wN,Qb lR⟩]⟩::⟨37,10,[⟨bD,Wo tD⟩]⟩::⟨124,2,[⟨wN,Ph yJ⟩]⟩::⟨38,10,[⟨bD,aa9 Dz⟩]⟩::⟨42,20,[⟨jZ,Zz v5⟩]⟩::⟨120,12,[⟨dr,PV jj⟩]⟩::⟨17,6,[⟨oc,Vp vX⟩]⟩::Lk0
theorem ak1:bF Lk1 fun c=>bF c.l (al Pg c.f c.nt):=⟨⟨ajM,TT⟩,⟨agb,TT⟩,⟨acj,TT⟩,⟨amd,TT⟩,⟨ad3,TT⟩,⟨abg,TT⟩,⟨agc,TT⟩,⟨ai0,TT⟩,⟨afA,TT⟩,⟨aee,TT⟩,⟨acO,TT⟩,⟨af2,TT⟩,⟨aii,TT⟩,⟨alP,TT⟩,⟨ajV,TT⟩,⟨af5,TT⟩,⟨agE,TT⟩,⟨ab2,TT⟩,⟨ago,TT⟩,⟨agD,TT⟩,⟨adF,TT⟩,⟨acL,TT⟩,⟨afh,TT⟩,⟨afz,TT⟩,⟨acz,TT⟩,⟨adb,TT⟩,⟨aeE,TT⟩,⟨aib,TT⟩,⟨alp,TT⟩,⟨aiL,TT⟩,⟨aep,TT⟩,⟨alc,TT⟩,⟨al5,TT⟩,⟨agp,TT⟩,⟨ajR,TT⟩,⟨aeM,TT⟩,⟨ako,TT⟩,⟨alx,TT⟩,⟨agk,TT⟩,⟨ajc,TT⟩,ak0⟩
def Ek1:aE:=aE.ofIO Lk1 bG io0
theorem ek1:Ek1.Ok Pg:=aE.ofIO_ok aP ak1
def ZN (α:Type)(a c d:Int)(k1:Int->Int->Op α):Op α:=
 Cu α d (w64 ((w64 (c - a))+1))
 (fun b=>k1 (w64 (a+b)) (w64 (a+b)))
def C5:jV:=sld ZN
def T8 (v:jV)(α:Type)(k:RT α):Int->Int->Int->Op α:=fun a b c=>v α a b c (fun d e=>cN k d e)
theorem alQ:al Pg 11 20 ⟨o9,T8 C5⟩:=iP ek1 atQ (ag Tryz.func11 (by kernel_rfl)) atj fun _ _=>by kernel_rfl
def anX:SG:=[(4,iS 2),(7,iT),(12,iT)]
def aos:TG:=[tT 0 [1,2],tT 1 [1,2,3],tT 2 [2]]
def apK:au:=aB Pg Tryz.f162 aos aR
def LT (α:Type)(b c:Int)(k1:Int->Int->Op α):Op α:=
 eG α b c
 (fun a=>k1 a a)
def uA:kw:=sld LT
def Mr (v:kw)(α:Type)(k:RT α):Int->Int->Op α:=fun a b=>v α a b (fun c d=>ug k a c d b)
theorem aft:al Pg 162 15 ⟨bD,Mr uA⟩:=iP ek1 apK (ag Tryz.func162 (by kernel_rfl)) anX fun _ _=>by kernel_rfl
def ahl:SG:=[(6,iS 2),(9,iS 2),(19,iT),(22,iT),(26,iT),(29,iT)]
def anA:TG:=[tT 0 [1],tT 1 [1,3,4],tT 2 [4,11],tT 3 [2],tT 4 [34],tT 5 [2],tT 6 [2]]
def TX:au:=aB Pg Tryz.f121 anA aR
def yV:PT St:=pS [sP 1,sY 3 dB,sY 4 dB] [az 1 (xs 4)]
def aoc {β:Type}(g:St->β):Bool->Bool->I4 β:=yV.unc g
def V6:PT St:=pS [sY 4 dB,sY 11 dB] []
def YV {β:Type}(g:St->β):Bool->Bool->β:=V6.unc g
def WI:ah:=ah.sub [1,1,0,0,0] (emb TX)
abbrev BN:Type 1:=(α:Type)->Bool->Bool->Int->Int->Int->Int->(Bool->Op α)->Op α
def Cs (α:Type)(a b:Bool)(c d e g:Int)(k1:Bool->Op α):Op α:=
 cK a
 (cK (!b)
 (k1 true)
 (k1 (decide ((w64 (g - e))<=(w64 (d - c))))))
 (k1 false)
def tZ:BN:=sld Cs
def Ix (v:BN)(α:Type)(K:KT α):Bool->Bool->I4 (Op α):=fun b a c d e g=>v α b a c d e g (fun h=>YV (K .normal) a h)
theorem V5:∀ (α:Type) (K:KT α),Ix tZ α K=yV.unc fun σ=>aF Pg Ek1 ahl WI K σ:=bR (fun α K=>by kernel_rfl)
abbrev Ps:Type 1:=(α:Type)->Int->Int->Int->Int->(Int->Op α)->Op α
def Po (α:Type)(a b c d:Int)(k1:Int->Op α):Op α:=
 mg α a b
 (fun g=>mg α c d
 (fun e=>tZ α g e a b c d
 (fun h=>cK h
 (k1 1)
 (cK e
 (k1 2)
 (k1 0)))))
def iU:Ps:=sld Po
def Qm:PT (List DV):=pA [pV true [(dI .i64),(dI .i64),(dI .i64),(dI .i64)]]
def LE (v:Ps)(α:Type)(k:RT α):I4 (Op α):=fun a b c d=>v α a b c d (fun e=>bu k e)
def afn:ah:=(ah.put (.m [⟨yV,Ix tZ⟩]) [1,1,0,0] (emb TX))
theorem adx:al Pg 121 36 ⟨Qm,LE iU⟩:=iZ ek1 (ag Tryz.func121 (by kernel_rfl)) ahl afn ((aA _ _).trans (aG _)) (bc (by kernel_rfl) (aK TX) ⟨V5,TT⟩) fun _ _=>by kernel_rfl
def Vr:SG:=[(10,[.sl])]
def at8:TG:=[tT 0 [0],tT 1 [0,12,13],tT 2 [0,12,13,14],tT 3 [0,3,12,13],tT 4 [0,5,12,13],tT 5 [0,12,13,23],tT 6 [0,2],tT 7 [0,12,13],tT 8 [0,2]]
def ar7:TG:=[tT 2 [0,12,13]]
def adI:au:=aB Pg Tryz.f41 at8 ar7
def yT:OT:=tdC (ah.sub [1,0,1,0] (emb adI))
def EF:PT St:=pSv [(0,500000000,0)] [sl 0 (aV false [(gi 500000000 0)]),sI 12,sI 13] [az 500000000 [xI,xI,xI,xI,xI,xI,xI,(cD dL),xI,xI]]
def Fr {β:Type}(g:St->β):Int->Int->Int->Int->Int->Int->Int->Int->Int->ae->Int->Int->β:=EF.unc g
def aes:PT St:=pSv [(0,500000000,0)] [sl 0 (aV false [(gi 500000000 0)]),sY 2 dB] [az 500000000 [xI,xI,xI,xI,xI,xI,xI,(cD dL),xI,xI]]
def wX {β:Type}(g:St->β):Bool->Int->Int->Int->Int->Int->Int->Int->ae->Int->Int->β:=aes.unc g
def ab9:PT St:=pSv [(0,500000000,0)] [sl 0 (aV false [(gi 500000000 0)]),sI 12,sI 13,sY 14 dB] [az 500000000 [xI,xI,xI,xI,xI,xI,xI,(cD dL),xI,xI]]
def xn {β:Type}(g:St->β):Int->Int->Bool->Int->Int->Int->Int->Int->Int->Int->ae->Int->Int->β:=ab9.unc g
def W9:PT (List RV):=pRs [pR false [rD dB],pR true [rD (dI .i64),rD (dI .i64),rD (dI .i64),rD (dI .i64),rD (dI .i64),rD (dI .i64),rD (dI .i64),rD dL,rD (dI .i64),rD (dI .i64)]]
def Tk {β:Type}(g:List RV->β):Bool->Int->Int->Int->Int->Int->Int->Int->ae->Int->Int->β:=W9.unc g
def xB:ah:=ah.sub [1,0,1,0,0] (emb adI)
def sW (α:Type)(b c:Int)(d:ae)(e g a:Int)(kn:Int->Op α)(k1:Op α)(k2:Int->Bool->Op α):Op α:=
 cK (decide (a < b))
 (A6 α c d e g a
 (fun i j h=>cK (h != 0)
 (k1)
 (kn (w64 (a+1)))))
 (k2 a (decide (a < b)))
def oK (α:Type)(a b:Int)(c:ae)(d e:Int)(k1:Op α)(k2:Int->Bool->Op α):Nat->Int->Op α
 | 0,_=>none
 | n+1,g=>sW α a b c d e g (oK α a b c d e k1 k2 n) k1 k2
def Id (α:Type)(a b:Int)(c:ae)(d e:Int)(k1:Op α)(k2:Int->Bool->Op α)(g:Int):Op α:=oK α a b c d e k1 k2 aN g
abbrev GF:Type 1:=(α:Type)->Int->Int->ae->Int->Int->(Op α)->(Int->Bool->Op α)->Int->Op α
def wP:GF:=sld Id
def Kp (v:GF)(α:Type)(K:KT α):Int->Int->Int->Int->Int->Int->Int->Int->Int->ae->Int->Int->Op α:=fun e o g a h i j l m b c d=>v α e a b c d (wX (K .ret) true g a h i j l m b c d) (fun p q=>xn (K (.exit 0)) e p q g a h i j l m b c d) o
theorem afE (α:Type)(K:KT α)(Kn:SK α)(e g h a i j l m o:Int)(b:ae)(c d:Int):Fr (fun σ=>aF Pg Ek1 Vr xB (cX (fun σ=>bW yT σ Kn) K) σ) e g h a i j l m o b c d=sW α e a b c d g (fun g=>Fr Kn e g h a i j l m o b c d) (wX (K .ret) true h a i j l m o b c d) (fun p q=>xn (K (.exit 0)) e p q h a i j l m o b c d):=by kernel_rfl
theorem aeh (α:Type)(K:KT α):∀ (n:Nat) (e o g a h i j l m:Int) (b:ae) (c d:Int),oK α e a b c d (wX (K .ret) true g a h i j l m b c d) (fun p q=>xn (K (.exit 0)) e p q g a h i j l m b c d) n o=Fr (aS (aF Pg Ek1 Vr xB) yT K n) e o g a h i j l m b c d:=by
 intro n
 induction n with
 | zero=>intros;rfl
 | succ n ih=>intro e o g a h i j l m b c d;exact (congrArg (fun kn=>sW α e a b c d o kn (wX (K .ret) true g a h i j l m b c d) (fun p q=>xn (K (.exit 0)) e p q g a h i j l m b c d)) (funext fun o=>ih e o g a h i j l m b c d)).trans (afE α K (aS (aF Pg Ek1 Vr xB) yT K n) e o g a h i j l m b c d).symm
theorem agr:∀ (α:Type) (K:KT α),Kp wP α K=EF.unc fun σ=>aS (aF Pg Ek1 Vr xB) yT K aN σ:=bR (fun α K=>funext fun a=>funext fun b=>funext fun c=>funext fun d=>funext fun e=>funext fun g=>funext fun h=>funext fun i=>funext fun j=>funext fun l=>funext fun m=>funext fun o=>aeh α K aN a b c d e g h i j l m o)
abbrev UM:Type 1:=(α:Type)->Int->ae->Int->Int->(Bool->Op α)->Op α
def US (α:Type)(b:Int)(a:ae)(c d:Int)(k1:Bool->Op α):Op α:=
 wP α (w64 (((List.length a:Nat):Int)+2)) b a c d
 (k1 true)
 (fun e g=>k1 false) 0
def v7:UM:=sld US
def aaH:PT (List DV):=pA [pV false [(dMr [(dI .i64),(dI .i64),(dI .i64),(dI .i64),(dI .i64),(dI .i64),(dI .i64),dL,(dI .i64),(dI .i64)] 0)]]
def Wc (v:UM)(α:Type)(k:RT α):Int->Int->Int->Int->Int->Int->Int->ae->Int->Int->Op α:=fun e a g h i j l b c d=>v α a b c d (fun m=>Tk k m e a g h i j l b c d)
def alN:ah:=(ah.put (.m [⟨EF,Kp wP⟩]) [1,0,1,0] (emb adI))
theorem ala:al Pg 41 25 ⟨aaH,Wc v7⟩:=iZ ek1 (ag Tryz.func41 (by kernel_rfl)) Vr alN ((aA _ _).trans (aG _)) (bK (td:=yT) (by kernel_rfl) (aK adI) ⟨agr,TT⟩) fun _ _=>by kernel_rfl
def ahp:SG:=[(7,iT),(13,iT),(21,iT),(28,iT),(30,iT)]
def aqg:TG:=[tT 0 [1,2],tT 1 [2,5],tT 2 [4],tT 3 [26],tT 4 [4],tT 5 [4]]
def SF:au:=aB Pg Tryz.f196 aqg aR
def yH:PT St:=pS [sI 1,sP 2] [az 2 [xI,xI]]
def ap2 {β:Type}(g:St->β):Int->Int->Int->β:=yH.unc g
def TN:PT St:=pS [sP 2,sY 5 dB] [az 2 [xI,xI]]
def Bp {β:Type}(g:St->β):Bool->Int->Int->β:=TN.unc g
def Tl:ah:=ah.sub [1,0,0,0] (emb SF)
def Ca (α:Type)(a c b:Int)(k1:Bool->Op α):Op α:=
 kq α c a 1099511627776
 (fun d=>cK (!d)
 (k1 true)
 (cK (decide (1099511627776 < b))
 (k1 true)
 (cK (decide (a < 0))
 (k1 (decide (b < a)))
 (k1 false))))
def qY:dp:=sld Ca
def Im (v:dp)(α:Type)(K:KT α):Int->Int->Int->Op α:=fun c a b=>v α c a b (fun d=>Bp (K .normal) d a b)
theorem Vi:∀ (α:Type) (K:KT α),Im qY α K=yH.unc fun σ=>aF Pg Ek1 ahp Tl K σ:=bR (fun α K=>by kernel_rfl)
abbrev xD:Type 1:=(α:Type)->Int->Int->Int->(Int->Op α)->Op α
def LD (α:Type)(a b c:Int)(k1:Int->Op α):Op α:=
 qY α c a b
 (fun d=>cK d
 (k1 2)
 (cK (decide (b < a))
 (k1 10)
 (k1 0)))
def uR:xD:=sld LD
def MT (v:xD)(α:Type)(k:RT α):Int->Int->Int->Op α:=fun a b c=>v α a b c (fun d=>bu k d)
def ab3:ah:=(ah.put (.m [⟨yH,Im qY⟩]) [1,0,0] (emb SF))
theorem acH:al Pg 196 32 ⟨o9,MT uR⟩:=iZ ek1 (ag Tryz.func196 (by kernel_rfl)) ahp ab3 ((aA _ _).trans (aG _)) (bc (by kernel_rfl) (aK SF) ⟨Vi,TT⟩) fun _ _=>by kernel_rfl
def apA:TG:=[tT 0 [0],tT 1 [2]]
def an8:au:=aB Pg Tryz.f203 apA aR
def Ql (α:Type)(a:Int)(k1:Int->Op α):Op α:=
 gq α a
 (fun b=>k1 (w64 (64 - b)))
def yN:dl:=sld Ql
def OZ (v:dl)(α:Type)(k:RT α):Int->Op α:=fun a=>v α a (fun b=>bu k b)
theorem aeO:al Pg 203 6 ⟨xM,OZ yN⟩:=iP ek1 an8 (ag Tryz.func203 (by kernel_rfl)) br fun _ _=>by kernel_rfl
def ahM:SG:=[(7,iS 2),(9,iS 2),(12,iT),(14,iT)]
def aqW:TG:=[tT 0 [2,3,4],tT 1 [4,5]]
def aqx:au:=aB Pg Tryz.f177 aqW aR
def R8:PT (List RV):=pRs [pR true [rD (dI .i64),rD (dI .i64),rD (dI .i64)],wI]
def ei {β:Type}(g:List RV->β):I4 β:=R8.unc g
abbrev fQ:Type 1:=(α:Type)->Int->Int->Int->Int->Int->Int->(Int->Int->Int->Op α)->Op α
def Nz (α:Type)(a b c d e g:Int)(k1:Int->Int->Int->Op α):Op α:=
 D8 α a b d e
 (fun h i=>k1 h i (w64 (c+g)))
def EX:fQ:=sld Nz
def jN:PT (List DV):=pA [pV true [(dI .i64),(dI .i64),(dI .i64)],pV true [(dI .i64),(dI .i64),(dI .i64)]]
def P5 (v:fQ)(α:Type)(k:RT α):I6 (Op α):=fun a b c d e g=>v α a b c d e g (fun h i j=>ei k h i j 0)
theorem abM:al Pg 177 17 ⟨jN,P5 EX⟩:=iP ek1 aqx (ag Tryz.func177 (by kernel_rfl)) ahM fun _ _=>by kernel_rfl
def asG:TG:=[tT 0 [0,1],tT 1 [4]]
def atS:au:=aB Pg Tryz.f89 asG aR
def IU (α:Type)(a b:Int)(k1:Int->Op α):Op α:=
 jc α (w64 (0 - a)) b
 (fun c=>k1 (w64 (0 - c)))
def dK:dt:=sld IU
def XY (v:dt)(α:Type)(k:RT α):Int->Int->Op α:=fun a b=>v α a b (fun c=>bu k c)
theorem alg:al Pg 89 10 ⟨dr,XY dK⟩:=iP ek1 atS (ag Tryz.func89 (by kernel_rfl)) br fun _ _=>by kernel_rfl
def aq9:TG:=[tT 0 [0],tT 1 [0,3],tT 2 [0,3,12],tT 3 [0,3],tT 4 [0,3,21],tT 5 [0,3],tT 6 [2]]
def apM:TG:=[tT 2 [0,3],tT 4 [0,3]]
def CJ:au:=aB Pg Tryz.f141 aq9 apM
def qI:OT:=tdC (ah.sub [1,1,0,0] (emb CJ))
def mW:OT:=tdC (ah.sub [1,1,1,0,0] (emb CJ))
def Um:PT St:=pS [sI 0,sI 3,sY 12 dB] []
def sH {β:Type}(g:St->β):Int->Int->Bool->β:=Um.unc g
def TB:PT St:=pS [sI 0,sI 3,sY 21 dB] []
def tS {β:Type}(g:St->β):Int->Int->Bool->β:=TB.unc g
def oQ:ah:=ah.sub [1,1,1,0,0,0] (emb CJ)
def mt (α:Type)(b a:Int)(kn:Int->Op α)(k1:Int->Bool->Op α):Op α:=
 cK (decide ((w64 ((w64 (a+1))*(w64 (a+1))))<=b))
 (kn (w64 (a+1)))
 (k1 a (decide ((w64 ((w64 (a+1))*(w64 (a+1))))<=b)))
def fG (α:Type)(a:Int)(k1:Int->Bool->Op α):Nat->Int->Op α
 | 0,_=>none
 | n+1,b=>mt α a b (fG α a k1 n) k1
def Cw (α:Type)(a:Int)(k1:Int->Bool->Op α)(b:Int):Op α:=fG α a k1 aN b
def kJ:iL:=sld Cw
def Ip (v:iL)(α:Type)(K:KT α):Int->Int->Op α:=fun a b=>v α a (fun c d=>tS (K (.exit 2)) a c d) b
theorem Wi (α:Type)(K:KT α)(Kn:SK α)(a b:Int):gy (fun σ=>aF Pg Ek1 br oQ (cX (fun σ=>bW mW σ Kn) K) σ) a b=mt α a b (fun b=>gy Kn a b) (fun c d=>tS (K (.exit 2)) a c d):=by kernel_rfl
theorem Z4 (α:Type)(K:KT α):∀ (n:Nat) (a b:Int),fG α a (fun c d=>tS (K (.exit 2)) a c d) n b=gy (aS (aF Pg Ek1 br oQ) mW K n) a b:=by
 intro n
 induction n with
 | zero=>intros;rfl
 | succ n ih=>intro a b;exact (congrArg (fun kn=>mt α a b kn (fun c d=>tS (K (.exit 2)) a c d)) (funext fun b=>ih a b)).trans (Wi α K (aS (aF Pg Ek1 br oQ) mW K n) a b).symm
theorem Xg:∀ (α:Type) (K:KT α),Ip kJ α K=iW.unc fun σ=>aS (aF Pg Ek1 br oQ) mW K aN σ:=bR (fun α K=>funext fun a=>funext fun b=>Z4 α K aN a b)
def sM:ah:=ah.sub [1,1,0,0,0] (emb CJ)
def kX (α:Type)(b a:Int)(kn:Int->Op α)(k1:Int->Bool->Op α):Op α:=
 cK (decide (b < (w64 (a*a))))
 (kn (w64 (a - 1)))
 (k1 a (decide (b < (w64 (a*a)))))
def ff (α:Type)(a:Int)(k1:Int->Bool->Op α):Nat->Int->Op α
 | 0,_=>none
 | n+1,b=>kX α a b (ff α a k1 n) k1
def BW (α:Type)(a:Int)(k1:Int->Bool->Op α)(b:Int):Op α:=ff α a k1 aN b
def kO:iL:=sld BW
def GC (v:iL)(α:Type)(K:KT α):Int->Int->Op α:=fun a b=>v α a (fun c d=>sH (K (.exit 0)) a c d) b
theorem VQ (α:Type)(K:KT α)(Kn:SK α)(a b:Int):gy (fun σ=>aF Pg Ek1 br sM (cX (fun σ=>bW qI σ Kn) K) σ) a b=kX α a b (fun b=>gy Kn a b) (fun c d=>sH (K (.exit 0)) a c d):=by kernel_rfl
theorem Zh (α:Type)(K:KT α):∀ (n:Nat) (a b:Int),ff α a (fun c d=>sH (K (.exit 0)) a c d) n b=gy (aS (aF Pg Ek1 br sM) qI K n) a b:=by
 intro n
 induction n with
 | zero=>intros;rfl
 | succ n ih=>intro a b;exact (congrArg (fun kn=>kX α a b kn (fun c d=>sH (K (.exit 0)) a c d)) (funext fun b=>ih a b)).trans (VQ α K (aS (aF Pg Ek1 br sM) qI K n) a b).symm
theorem Y6:∀ (α:Type) (K:KT α),GC kO α K=iW.unc fun σ=>aS (aF Pg Ek1 br sM) qI K aN σ:=bR (fun α K=>funext fun a=>funext fun b=>Zh α K aN a b)
def PI (α:Type)(a:Int)(k1:Int->Op α):Op α:=
 E5 α (FloatKind.nearest .f64 a)
 (fun b=>ivK (f2i .f64 b .i64)
 (fun c=>kO α a
 (fun d g=>kJ α a
 (fun e h=>k1 e) d) c))
def eF:dl:=sld PI
def Lp (v:dl)(α:Type)(k:RT α):Int->Op α:=fun a=>v α a (fun b=>bu k b)
def afm:ah:=(ah.put (.m [⟨iW,GC kO⟩]) [1,1,0,0] (ah.put (.m [⟨iW,Ip kJ⟩]) [1,1,1,0,0] (emb CJ)))
theorem acd:al Pg 141 25 ⟨bj,Lp eF⟩:=iZ ek1 (ag Tryz.func141 (by kernel_rfl)) br afm ((aA _ _).trans ((aA _ _).trans (aG _))) (bK (td:=qI) (by kernel_rfl) (bK (td:=mW) (by kernel_rfl) (aK CJ) ⟨Xg,TT⟩) ⟨Y6,TT⟩) fun _ _=>by kernel_rfl
def apf:TG:=[tT 0 [2,3,4],tT 1 [4,5]]
def aqX:au:=aB Pg Tryz.f167 apf aR
def OG (α:Type)(a b c d e g:Int)(k1:Int->Int->Int->Op α):Op α:=
 uq α a b d e
 (fun h i=>k1 h i (w64 (c+g)))
def Ee:fQ:=sld OG
def Md (v:fQ)(α:Type)(k:RT α):I6 (Op α):=fun a b c d e g=>v α a b c d e g (fun h i j=>ei k h i j 0)
theorem afU:al Pg 167 17 ⟨jN,Md Ee⟩:=iP ek1 aqX (ag Tryz.func167 (by kernel_rfl)) ahM fun _ _=>by kernel_rfl
def anu:TG:=[tT 0 [0,1],tT 1 [0,1,6],tT 2 [0],tT 3 [0,10],tT 4 [0],tT 5 [4]]
def aoF:au:=aB Pg Tryz.f205 anu aR
abbrev LV:Type 1:=(α:Type)->Nat->Int->(Bool->Op α)->Op α
def O6 (α:Type)(a:Nat)(b:Int)(k1:Bool->Op α):Op α:=
 cK (b == 0)
 (uf α a
 (fun c=>k1 ((FloatKind.format .f64).order c 9218868437227405311 == some Ordering.gt)))
 (cK (decide (b < 0))
 (k1 ((FloatKind.format .f64).order (Op.negFloat .f64 a) 9218868437227405311 == some Ordering.gt))
 (k1 ((FloatKind.format .f64).order a 9218868437227405311 == some Ordering.gt)))
def E1:LV:=sld O6
def OU:PT (List DV):=pA [pV false [(dF .f64)],vI]
def PS (v:LV)(α:Type)(k:RT α):Nat->Int->Op α:=fun a b=>v α a b (fun c=>bA k c)
theorem ae4:al Pg 205 15 ⟨OU,PS E1⟩:=iP ek1 aoF (ag Tryz.func205 (by kernel_rfl)) br fun _ _=>by kernel_rfl
end
end Go.AM.K
