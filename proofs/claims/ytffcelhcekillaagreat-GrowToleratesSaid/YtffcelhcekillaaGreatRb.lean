/- Printed by KGen. -/
import Derived.Test.YtffcelhcekillaaGreatRa
namespace Go.AM.K
open Go.Proofs
set_option maxRecDepth 100000
set_option linter.unusedVariables false
noncomputable section
def gj:SG:=[(24,iT),(27,iT),(36,iT),(39,iT),(47,iT),(49,iT),(58,iS 2),(67,iT),(69,iT),(72,iT),(74,iT),(96,iS 2),(101,iS 2),(103,iS 2),(104,iS 2)]
def aHR:TG:=[tT 0 [0,2],tT 1 [0,2],tT 2 [0,2,19],tT 3 [2,3],tT 4 [2],tT 5 [0,2,31],tT 6 [2,4],tT 7 [2],tT 8 [0,2,42],tT 9 [2,5],tT 10 [2],tT 11 [0,2,6],tT 12 [0,2,6,7,8],tT 13 [0,2,7,8,9,10],tT 14 [0,2,7,8,9,10,57],tT 15 [2],tT 16 [0,2,7,8,9,10,61],tT 17 [0,2,7,8,9,10,11],tT 18 [0,2,7,8,9,10,11,12,13],tT 19 [0,2,7,8,9,10,11,12,13,14],tT 20 [0,2,7,8,9,10,11,15],tT 21 [0,2,7,8,9,10,11,15,95],tT 22 [2],tT 23 [0,2,7,8,9,10,11,15,99],tT 24 [0,2,7,8,9,10],tT 25 [0,2,7,8,9,10],tT 26 [2]]
def aDb:TG:=[tT 16 [0,2,7,8,9,10]]
def lX:aq:=aw Pg Tryz.f286 aHR aDb
def ce:OT:=tdC (ag.sub [1,1,1,1,1,1,1,1,1,0,0] (emb lX))
def gO:PT St:=pS [sI 0,sP 2,sI 7,sI 8,sP 9,sP 10] [au 2 [xI,xI],au 9 [xI,xI],au 10 [xI,xI]]
def eJ {β:Type}(g:St->β):I9 β:=gO.unc g
def alc:PT St:=pS [sP 2] [au 2 [xI,xI]]
def db {β:Type}(g:St->β):Int->Int->β:=alc.unc g
def aiT:PT St:=pS [sI 0,sP 2,sI 7,sI 8,sP 9,sP 10,sl 61 (aV false [(cD dB)])] [au 2 [xI,xI],au 9 [xI,xI],au 10 [xI,xI]]
def cZ {β:Type}(g:St->β):Int->Int->Int->Bool->I6 β:=aiT.unc g
def qw:ag:=ag.sub [1,1,1,1,1,1,1,1,1,0,0,0] (emb lX)
def Eu (α:Type)(i h a c d e g:Int)(kn:I6 (Op α))(k1:Int->Int->Op α)(k2:Int->Int->Bool->I4 (Op α)):Op α:=
 cK (i != a)
 (de α (w64 ((w64 ((w64 (c+e))*(w64 (c+e))))+(w64 ((w64 (d+g))*(w64 (d+g))))))
 (fun b=>gK (b != 0) (gK (b != 0) (cK ((w64 (Int.tdiv (w64 (h+a)) 2)) == i)
 (k1 (w64 (Int.tdiv (w64 ((w64 (c+e))*67108864)) b)) (w64 (Int.tdiv (w64 ((w64 (d+g))*67108864)) b)))
 (cK (decide ((w64 (Int.tdiv (w64 (h+a)) 2)) < i))
 (kn (w64 (Int.tdiv (w64 (h+a)) 2)) a (w64 (Int.tdiv (w64 ((w64 (c+e))*67108864)) b)) (w64 (Int.tdiv (w64 ((w64 (d+g))*67108864)) b)) e g)
 (kn h (w64 (Int.tdiv (w64 (h+a)) 2)) c d (w64 (Int.tdiv (w64 ((w64 (c+e))*67108864)) b)) (w64 (Int.tdiv (w64 ((w64 (d+g))*67108864)) b))))))))
 (k2 h a (i != a) c d e g)
def lq (α:Type)(a:Int)(k1:Int->Int->Op α)(k2:Int->Int->Bool->I4 (Op α)):Nat->I6 (Op α)
 | 0,_,_,_,_,_,_=>none
 | n+1,b,c,d,e,g,h=>Eu α a b c d e g h (lq α a k1 k2 n) k1 k2
def Hs (α:Type)(a:Int)(k1:Int->Int->Op α)(k2:Int->Int->Bool->I4 (Op α))(b c d e g h:Int):Op α:=lq α a k1 k2 aF b c d e g h
abbrev gn:Type 1:=(α:Type)->Int->(Int->Int->Op α)->(Int->Int->Bool->I4 (Op α))->I6 (Op α)
def xb:gn:=sld Hs
def LU (v:gn)(α:Type)(K:KT α):I9 (Op α):=fun c d e g h i j l m=>v α c (fun a b=>db (K .ret) a b) (fun a b o p q r s=>cZ (K (.exit 0)) c a b o g h p q r s) d e i j l m
theorem aie (α:Type)(K:KT α)(Kn:SK α)(a b c i j d e g h:Int):eJ (fun σ=>az Pg Ek1 gj qw (bK (fun σ=>bq ce σ Kn) K) σ) a b c i j d e g h=Eu α a b c d e g h (fun b c d e g h=>eJ Kn a b c i j d e g h) (fun l m=>db (K .ret) l m) (fun l m o p q r s=>cZ (K (.exit 0)) a l m o i j p q r s):=by kernel_rfl
theorem adI (α:Type)(K:KT α):∀ (n:Nat) (a b c l m d e g h:Int),lq α a (fun i j=>db (K .ret) i j) (fun i j o p q r s=>cZ (K (.exit 0)) a i j o l m p q r s) n b c d e g h=eJ (aJ (az Pg Ek1 gj qw) ce K n) a b c l m d e g h:=by
 intro n
 induction n with
 | zero=>intros;rfl
 | succ n ih=>intro a b c l m d e g h;exact (congrArg (fun kn=>Eu α a b c d e g h kn (fun i j=>db (K .ret) i j) (fun i j o p q r s=>cZ (K (.exit 0)) a i j o l m p q r s)) (funext fun b=>funext fun c=>funext fun d=>funext fun e=>funext fun g=>funext fun h=>ih a b c l m d e g h)).trans (aie α K (aJ (az Pg Ek1 gj qw) ce K n) a b c l m d e g h).symm
theorem aj5:∀ (α:Type) (K:KT α),LU xb α K=gO.unc fun σ=>aJ (az Pg Ek1 gj qw) ce K aF σ:=aZ (fun α K=>funext fun a=>funext fun b=>funext fun c=>funext fun d=>funext fun e=>funext fun g=>funext fun h=>funext fun i=>funext fun j=>adI α K aF a b c d e g h i j)
abbrev dW:Type 1:=(α:Type)->Int->(Int->Int->Op α)->Op α
def Sq (α:Type)(c:Int)(k1:Int->Int->Op α):Op α:=
 kW α c 4194304
 (fun a=>cK (decide (2097152<=a))
 (none)
 (cK (decide (1048576<=a))
 (none)
 (cK (decide (524288 < a))
 (none)
 (de α 2251799813685248
 (fun b=>cK (a == 0)
 (k1 67108864 0)
 (xb α a
 (fun d e=>k1 d e)
 (fun i j l m o g h=>k1 g h) 0 524288 67108864 0 b b))))))
def rT:dW:=sld Sq
def Sn (v:dW)(α:Type)(k:RT α):Int->Op α:=fun a=>v α a (fun b c=>bu k b c)
def asG:ag:=(ag.put (.m [⟨gO,LU xb⟩]) [1,1,1,1,1,1,1,1,1,0,0] (emb lX))
theorem an1:ak Pg 286 105 ⟨aU,Sn rT⟩:=iZ ek1 (ah Tryz.func286 (by kernel_rfl)) gj asG ((an _ _).trans (aA _)) (aY (td:=ce) (by kernel_rfl) (aD lX) ⟨aj5,trivial⟩) fun _ _=>by kernel_rfl
noncomputable abbrev Lk2:List bA:=⟨286,105,[⟨aU,Sn rT⟩]⟩::⟨102,9,[⟨ba,Us dC⟩]⟩::⟨104,33,[⟨q8,Zc jV⟩]⟩::Lk1
theorem ak2:bG Lk2 fun c=>bG c.l (ak Pg c.f c.nt):=⟨⟨an1,trivial⟩,⟨asp,trivial⟩,⟨asH,trivial⟩,ak1⟩
def Ek2:aE:=aE.ofIO Lk2 bt io0
theorem ek2:Ek2.Ok Pg:=aE.ofIO_ok aN ak2
def qv:ag:=ag.sub [1,1,1,1,1,1,1,1,1,0,0,0] (emb lX)
def Bk (α:Type)(i h a c d e g:Int)(kn:I6 (Op α))(k1:Int->Int->Op α)(k2:Int->Int->Bool->I4 (Op α)):Op α:=
 cK (i != a)
 (de α (w64 ((w64 ((w64 (c+e))*(w64 (c+e))))+(w64 ((w64 (d+g))*(w64 (d+g))))))
 (fun b=>gK (b != 0) (gK (b != 0) (cK ((w64 (Int.tdiv (w64 (h+a)) 2)) == i)
 (k1 (w64 (Int.tdiv (w64 ((w64 (c+e))*67108864)) b)) (w64 (Int.tdiv (w64 ((w64 (d+g))*67108864)) b)))
 (cK (decide ((w64 (Int.tdiv (w64 (h+a)) 2)) < i))
 (kn (w64 (Int.tdiv (w64 (h+a)) 2)) a (w64 (Int.tdiv (w64 ((w64 (c+e))*67108864)) b)) (w64 (Int.tdiv (w64 ((w64 (d+g))*67108864)) b)) e g)
 (kn h (w64 (Int.tdiv (w64 (h+a)) 2)) c d (w64 (Int.tdiv (w64 ((w64 (c+e))*67108864)) b)) (w64 (Int.tdiv (w64 ((w64 (d+g))*67108864)) b))))))))
 (k2 h a (i != a) c d e g)
def lK (α:Type)(a:Int)(k1:Int->Int->Op α)(k2:Int->Int->Bool->I4 (Op α)):Nat->I6 (Op α)
 | 0,_,_,_,_,_,_=>none
 | n+1,b,c,d,e,g,h=>Bk α a b c d e g h (lK α a k1 k2 n) k1 k2
def HG (α:Type)(a:Int)(k1:Int->Int->Op α)(k2:Int->Int->Bool->I4 (Op α))(b c d e g h:Int):Op α:=lK α a k1 k2 aF b c d e g h
def tW:gn:=sld HG
def ND (v:gn)(α:Type)(K:KT α):I9 (Op α):=fun c d e g h i j l m=>v α c (fun a b=>db (K .ret) a b) (fun a b o p q r s=>cZ (K (.exit 0)) c a b o g h p q r s) d e i j l m
theorem afp (α:Type)(K:KT α)(Kn:SK α)(a b c i j d e g h:Int):eJ (fun σ=>az Pg Ek2 gj qv (bK (fun σ=>bq ce σ Kn) K) σ) a b c i j d e g h=Bk α a b c d e g h (fun b c d e g h=>eJ Kn a b c i j d e g h) (fun l m=>db (K .ret) l m) (fun l m o p q r s=>cZ (K (.exit 0)) a l m o i j p q r s):=by kernel_rfl
theorem aeM (α:Type)(K:KT α):∀ (n:Nat) (a b c l m d e g h:Int),lK α a (fun i j=>db (K .ret) i j) (fun i j o p q r s=>cZ (K (.exit 0)) a i j o l m p q r s) n b c d e g h=eJ (aJ (az Pg Ek2 gj qv) ce K n) a b c l m d e g h:=by
 intro n
 induction n with
 | zero=>intros;rfl
 | succ n ih=>intro a b c l m d e g h;exact (congrArg (fun kn=>Bk α a b c d e g h kn (fun i j=>db (K .ret) i j) (fun i j o p q r s=>cZ (K (.exit 0)) a i j o l m p q r s)) (funext fun b=>funext fun c=>funext fun d=>funext fun e=>funext fun g=>funext fun h=>ih a b c l m d e g h)).trans (afp α K (aJ (az Pg Ek2 gj qv) ce K n) a b c l m d e g h).symm
theorem agV:∀ (α:Type) (K:KT α),ND tW α K=gO.unc fun σ=>aJ (az Pg Ek2 gj qv) ce K aF σ:=aZ (fun α K=>funext fun a=>funext fun b=>funext fun c=>funext fun d=>funext fun e=>funext fun g=>funext fun h=>funext fun i=>funext fun j=>aeM α K aF a b c d e g h i j)
def Xd (α:Type)(c:Int)(k1:Int->Int->Op α):Op α:=
 kW α c 4194304
 (fun a=>cK (decide (2097152<=a))
 (rT α (w64 (a - 2097152))
 (fun d e=>k1 (w64 (0 - d)) (w64 (0 - e))))
 (cK (decide (1048576<=a))
 (rT α (w64 (a - 1048576))
 (fun g h=>k1 (w64 (0 - h)) g))
 (cK (decide (524288 < a))
 (rT α (w64 (1048576 - a))
 (fun i j=>k1 j i))
 (de α 2251799813685248
 (fun b=>cK (a == 0)
 (k1 67108864 0)
 (tW α a
 (fun l m=>k1 l m)
 (fun q r s t w o p=>k1 o p) 0 524288 67108864 0 b b))))))
def sC:dW:=sld Xd
def VF (v:dW)(α:Type)(k:RT α):Int->Op α:=fun a=>v α a (fun b c=>bu k b c)
def amK:ag:=(ag.put (.m [⟨gO,ND tW⟩]) [1,1,1,1,1,1,1,1,1,0,0] (emb lX))
theorem aq2:ak Pg 286 105 ⟨aU,VF sC⟩:=iZ ek2 (ah Tryz.func286 (by kernel_rfl)) gj amK ((an _ _).trans (aA _)) (aY (td:=ce) (by kernel_rfl) (aD lX) ⟨agV,trivial⟩) fun _ _=>by kernel_rfl
def Ec:aE:=aE.ofIO (⟨286,105,[⟨aU,VF sC⟩]⟩::Lk2) bt io0
theorem anW:Ec.Ok Pg:=aE.ofIO_ok aN ⟨⟨aq2,trivial⟩,ak2⟩
def qi:ag:=ag.sub [1,1,1,1,1,1,1,1,1,0,0,0] (emb lX)
def EJ (α:Type)(i h a c d e g:Int)(kn:I6 (Op α))(k1:Int->Int->Op α)(k2:Int->Int->Bool->I4 (Op α)):Op α:=
 cK (i != a)
 (de α (w64 ((w64 ((w64 (c+e))*(w64 (c+e))))+(w64 ((w64 (d+g))*(w64 (d+g))))))
 (fun b=>gK (b != 0) (gK (b != 0) (cK ((w64 (Int.tdiv (w64 (h+a)) 2)) == i)
 (k1 (w64 (Int.tdiv (w64 ((w64 (c+e))*67108864)) b)) (w64 (Int.tdiv (w64 ((w64 (d+g))*67108864)) b)))
 (cK (decide ((w64 (Int.tdiv (w64 (h+a)) 2)) < i))
 (kn (w64 (Int.tdiv (w64 (h+a)) 2)) a (w64 (Int.tdiv (w64 ((w64 (c+e))*67108864)) b)) (w64 (Int.tdiv (w64 ((w64 (d+g))*67108864)) b)) e g)
 (kn h (w64 (Int.tdiv (w64 (h+a)) 2)) c d (w64 (Int.tdiv (w64 ((w64 (c+e))*67108864)) b)) (w64 (Int.tdiv (w64 ((w64 (d+g))*67108864)) b))))))))
 (k2 h a (i != a) c d e g)
def lC (α:Type)(a:Int)(k1:Int->Int->Op α)(k2:Int->Int->Bool->I4 (Op α)):Nat->I6 (Op α)
 | 0,_,_,_,_,_,_=>none
 | n+1,b,c,d,e,g,h=>EJ α a b c d e g h (lC α a k1 k2 n) k1 k2
def Fs (α:Type)(a:Int)(k1:Int->Int->Op α)(k2:Int->Int->Bool->I4 (Op α))(b c d e g h:Int):Op α:=lC α a k1 k2 aF b c d e g h
def tq:gn:=sld Fs
def Of (v:gn)(α:Type)(K:KT α):I9 (Op α):=fun c d e g h i j l m=>v α c (fun a b=>db (K .ret) a b) (fun a b o p q r s=>cZ (K (.exit 0)) c a b o g h p q r s) d e i j l m
theorem ad5 (α:Type)(K:KT α)(Kn:SK α)(a b c i j d e g h:Int):eJ (fun σ=>az Pg Ec gj qi (bK (fun σ=>bq ce σ Kn) K) σ) a b c i j d e g h=EJ α a b c d e g h (fun b c d e g h=>eJ Kn a b c i j d e g h) (fun l m=>db (K .ret) l m) (fun l m o p q r s=>cZ (K (.exit 0)) a l m o i j p q r s):=by kernel_rfl
theorem ad7 (α:Type)(K:KT α):∀ (n:Nat) (a b c l m d e g h:Int),lC α a (fun i j=>db (K .ret) i j) (fun i j o p q r s=>cZ (K (.exit 0)) a i j o l m p q r s) n b c d e g h=eJ (aJ (az Pg Ec gj qi) ce K n) a b c l m d e g h:=by
 intro n
 induction n with
 | zero=>intros;rfl
 | succ n ih=>intro a b c l m d e g h;exact (congrArg (fun kn=>EJ α a b c d e g h kn (fun i j=>db (K .ret) i j) (fun i j o p q r s=>cZ (K (.exit 0)) a i j o l m p q r s)) (funext fun b=>funext fun c=>funext fun d=>funext fun e=>funext fun g=>funext fun h=>ih a b c l m d e g h)).trans (ad5 α K (aJ (az Pg Ec gj qi) ce K n) a b c l m d e g h).symm
theorem aeP:∀ (α:Type) (K:KT α),Of tq α K=gO.unc fun σ=>aJ (az Pg Ec gj qi) ce K aF σ:=aZ (fun α K=>funext fun a=>funext fun b=>funext fun c=>funext fun d=>funext fun e=>funext fun g=>funext fun h=>funext fun i=>funext fun j=>ad7 α K aF a b c d e g h i j)
def Qg (α:Type)(c:Int)(k1:Int->Int->Op α):Op α:=
 kW α c 4194304
 (fun a=>cK (decide (2097152<=a))
 (sC α (w64 (a - 2097152))
 (fun d e=>k1 (w64 (0 - d)) (w64 (0 - e))))
 (cK (decide (1048576<=a))
 (sC α (w64 (a - 1048576))
 (fun g h=>k1 (w64 (0 - h)) g))
 (cK (decide (524288 < a))
 (sC α (w64 (1048576 - a))
 (fun i j=>k1 j i))
 (de α 2251799813685248
 (fun b=>cK (a == 0)
 (k1 67108864 0)
 (tq α a
 (fun l m=>k1 l m)
 (fun q r s t w o p=>k1 o p) 0 524288 67108864 0 b b))))))
def rQ:dW:=sld Qg
def Qq (v:dW)(α:Type)(k:RT α):Int->Op α:=fun a=>v α a (fun b c=>bu k b c)
def anZ:ag:=(ag.put (.m [⟨gO,Of tq⟩]) [1,1,1,1,1,1,1,1,1,0,0] (emb lX))
theorem aq5:ak Pg 286 105 ⟨aU,Qq rQ⟩:=iZ anW (ah Tryz.func286 (by kernel_rfl)) gj anZ ((an _ _).trans (aA _)) (aY (td:=ce) (by kernel_rfl) (aD lX) ⟨aeP,trivial⟩) fun _ _=>by kernel_rfl
def CW:aE:=aE.ofIO (⟨286,105,[⟨aU,Qq rQ⟩]⟩::Lk2) bt io0
theorem asE:CW.Ok Pg:=aE.ofIO_ok aN ⟨⟨aq5,trivial⟩,ak2⟩
def qG:ag:=ag.sub [1,1,1,1,1,1,1,1,1,0,0,0] (emb lX)
def nJ (α:Type)(i h a c d e g:Int)(kn:I6 (Op α))(k1:Int->Int->Op α)(k2:Int->Int->Bool->I4 (Op α)):Op α:=
 cK (i != a)
 (de α (w64 ((w64 ((w64 (c+e))*(w64 (c+e))))+(w64 ((w64 (d+g))*(w64 (d+g))))))
 (fun b=>gK (b != 0) (gK (b != 0) (cK ((w64 (Int.tdiv (w64 (h+a)) 2)) == i)
 (k1 (w64 (Int.tdiv (w64 ((w64 (c+e))*67108864)) b)) (w64 (Int.tdiv (w64 ((w64 (d+g))*67108864)) b)))
 (cK (decide ((w64 (Int.tdiv (w64 (h+a)) 2)) < i))
 (kn (w64 (Int.tdiv (w64 (h+a)) 2)) a (w64 (Int.tdiv (w64 ((w64 (c+e))*67108864)) b)) (w64 (Int.tdiv (w64 ((w64 (d+g))*67108864)) b)) e g)
 (kn h (w64 (Int.tdiv (w64 (h+a)) 2)) c d (w64 (Int.tdiv (w64 ((w64 (c+e))*67108864)) b)) (w64 (Int.tdiv (w64 ((w64 (d+g))*67108864)) b))))))))
 (k2 h a (i != a) c d e g)
def cR (α:Type)(a:Int)(k1:Int->Int->Op α)(k2:Int->Int->Bool->I4 (Op α)):Nat->I6 (Op α)
 | 0,_,_,_,_,_,_=>none
 | n+1,b,c,d,e,g,h=>nJ α a b c d e g h (cR α a k1 k2 n) k1 k2
def Fh (α:Type)(a:Int)(k1:Int->Int->Op α)(k2:Int->Int->Bool->I4 (Op α))(b c d e g h:Int):Op α:=cR α a k1 k2 aF b c d e g h
def wL:gn:=sld Fh
def Nh (v:gn)(α:Type)(K:KT α):I9 (Op α):=fun c d e g h i j l m=>v α c (fun a b=>db (K .ret) a b) (fun a b o p q r s=>cZ (K (.exit 0)) c a b o g h p q r s) d e i j l m
theorem agu (α:Type)(K:KT α)(Kn:SK α)(a b c i j d e g h:Int):eJ (fun σ=>az Pg CW gj qG (bK (fun σ=>bq ce σ Kn) K) σ) a b c i j d e g h=nJ α a b c d e g h (fun b c d e g h=>eJ Kn a b c i j d e g h) (fun l m=>db (K .ret) l m) (fun l m o p q r s=>cZ (K (.exit 0)) a l m o i j p q r s):=by kernel_rfl
theorem alt (α:Type)(K:KT α):∀ (n:Nat) (a b c l m d e g h:Int),cR α a (fun i j=>db (K .ret) i j) (fun i j o p q r s=>cZ (K (.exit 0)) a i j o l m p q r s) n b c d e g h=eJ (aJ (az Pg CW gj qG) ce K n) a b c l m d e g h:=by
 intro n
 induction n with
 | zero=>intros;rfl
 | succ n ih=>intro a b c l m d e g h;exact (congrArg (fun kn=>nJ α a b c d e g h kn (fun i j=>db (K .ret) i j) (fun i j o p q r s=>cZ (K (.exit 0)) a i j o l m p q r s)) (funext fun b=>funext fun c=>funext fun d=>funext fun e=>funext fun g=>funext fun h=>ih a b c l m d e g h)).trans (agu α K (aJ (az Pg CW gj qG) ce K n) a b c l m d e g h).symm
theorem af8:∀ (α:Type) (K:KT α),Nh wL α K=gO.unc fun σ=>aJ (az Pg CW gj qG) ce K aF σ:=aZ (fun α K=>funext fun a=>funext fun b=>funext fun c=>funext fun d=>funext fun e=>funext fun g=>funext fun h=>funext fun i=>funext fun j=>alt α K aF a b c d e g h i j)
def Sp (α:Type)(c:Int)(k1:Int->Int->Op α):Op α:=
 kW α c 4194304
 (fun a=>cK (decide (2097152<=a))
 (rQ α (w64 (a - 2097152))
 (fun d e=>k1 (w64 (0 - d)) (w64 (0 - e))))
 (cK (decide (1048576<=a))
 (rQ α (w64 (a - 1048576))
 (fun g h=>k1 (w64 (0 - h)) g))
 (cK (decide (524288 < a))
 (rQ α (w64 (1048576 - a))
 (fun i j=>k1 j i))
 (de α 2251799813685248
 (fun b=>cK (a == 0)
 (k1 67108864 0)
 (wL α a
 (fun l m=>k1 l m)
 (fun q r s t w o p=>k1 o p) 0 524288 67108864 0 b b))))))
def DI:dW:=sld Sp
def U7 (v:dW)(α:Type)(k:RT α):Int->Op α:=fun a=>v α a (fun b c=>bu k b c)
def auO:ag:=(ag.put (.m [⟨gO,Nh wL⟩]) [1,1,1,1,1,1,1,1,1,0,0] (emb lX))
theorem arn:ak Pg 286 105 ⟨aU,U7 DI⟩:=iZ asE (ah Tryz.func286 (by kernel_rfl)) gj auO ((an _ _).trans (aA _)) (aY (td:=ce) (by kernel_rfl) (aD lX) ⟨af8,trivial⟩) fun _ _=>by kernel_rfl
def aEu:TG:=[tT 0 [1],tT 1 [2]]
def aAQ:aq:=aw Pg Tryz.f244 aEu aC
def Wk (α:Type)(a b:Int)(k1:Int->Op α):Op α:=
 de α (w64 ((w64 (a*a))+(w64 (b*b))))
 (fun c=>k1 c)
def mY:bz:=sld Wk
def R7 (v:bz)(α:Type)(k:RT α):Int->Int->Int->Op α:=fun a b d=>v α a b (fun c=>aR k c)
theorem ao4:ak Pg 244 15 ⟨cT,R7 mY⟩:=iP ek2 aAQ (ah Tryz.func244 (by kernel_rfl)) agF fun _ _=>by kernel_rfl
def aFi:TG:=[tT 0 [0],tT 1 [0,3],tT 2 [3,10],tT 3 [3],tT 4 [2]]
def aE5:aq:=aw Pg Tryz.f250 aFi aC
def Kh (α:Type)(b:Int)(k1:Int->Op α):Op α:=
 de α b
 (fun a=>cK (decide ((w64 (a*a)) < b))
 (k1 (w64 (a+1)))
 (k1 a))
def oA:cg:=sld Kh
def Xe (v:cg)(α:Type)(k:RT α):Int->Op α:=fun a=>v α a (fun b=>aR k b)
theorem arv:ak Pg 250 14 ⟨aU,Xe oA⟩:=iP ek2 aE5 (ah Tryz.func250 (by kernel_rfl)) aO fun _ _=>by kernel_rfl
def aGZ:TG:=[tT 0 [0,1],tT 1 [0,1,6],tT 2 [1,6,7],tT 3 [6,7,20],tT 4 [4,5],tT 5 [4,5]]
def aD3:aq:=aw Pg Tryz.f281 aGZ aC
def aaT:PT (List RV):=pRs [wI,pR false [rD dB]]
def qU {β:Type}(g:List RV->β):Int->Bool->β:=aaT.unc g
abbrev qu:Type 1:=(α:Type)->Int->Int->(Int->Bool->Op α)->Op α
def Io (α:Type)(c a:Int)(k1:Int->Bool->Op α):Op α:=
 dz α c a
 (fun b=>cK (decide ((w64 (a - (w64 (c - (w64 (b*a))))))<=(w64 (c - (w64 (b*a))))))
 (k1 (w64 (b+1)) true)
 (k1 b ((w64 (c - (w64 (b*a)))) != 0)))
def jS:qu:=sld Io
def ZJ (v:qu)(α:Type)(k:RT α):Int->Int->Op α:=fun a b=>v α a b (fun c d=>qU k c d)
theorem ank:ak Pg 281 26 ⟨br,ZJ jS⟩:=iP ek2 aD3 (ah Tryz.func281 (by kernel_rfl)) aO fun _ _=>by kernel_rfl
def OD:SG:=[(13,iT),(16,iT),(18,iT),(20,iS 3)]
def aG0:TG:=[tT 0 [1,2,4],tT 1 [1,2,4,5],tT 2 [1,2,4,5,9],tT 4 [1,2,4,5],tT 3 [1,2,4,5],tT 5 [4]]
def aGR:TG:=[tT 2 [1,2,4,5]]
def QL:aq:=aw Pg Tryz.f251 aG0 aGR
def wR:OT:=tdC (ag.sub [1,0,1,0] (emb QL))
def Eb:PT St:=pS [sI 1,sP 2,sP 4,sI 5] [au 2 (xs 3),au 4 (xs 3)]
def Bv {β:Type}(g:St->β):I8 β:=Eb.unc g
def adl:PT St:=pS [sI 1,sP 2,sP 4,sI 5,sl 9 (aV false [(cD dB)])] [au 2 (xs 3),au 4 (xs 3)]
def ud {β:Type}(g:St->β):Int->Int->Bool->I6 β:=adl.unc g
def tP:ag:=ag.sub [1,0,1,0,0] (emb QL)
def ny (α:Type)(e a b c:Int)(kn:Int->Int->Int->Op α)(k1:Int->Bool->Int->Int->Op α):Op α:=
 kW α e 4
 (fun d=>cK (decide (a < d))
 (kn (w64 (a+1)) (w64 (0 - c)) b)
 (k1 a (decide (a < d)) b c))
def nF (α:Type)(a:Int)(k1:Int->Bool->Int->Int->Op α):Nat->Int->Int->Int->Op α
 | 0,_,_,_=>none
 | n+1,b,c,d=>ny α a b c d (nF α a k1 n) k1
def FH (α:Type)(a:Int)(k1:Int->Bool->Int->Int->Op α)(b c d:Int):Op α:=nF α a k1 aF b c d
def vf:qg:=sld FH
def MQ (v:qg)(α:Type)(K:KT α):I8 (Op α):=fun a b c d e g h i=>v α a (fun j l m o=>ud (K (.exit 0)) a j l m o e g h i) b c d
theorem ac5 (α:Type)(K:KT α)(Kn:SK α)(a b c d e g h i:Int):Bv (fun σ=>az Pg Ek2 OD tP (bK (fun σ=>bq wR σ Kn) K) σ) a b c d e g h i=ny α a b c d (fun b c d=>Bv Kn a b c d e g h i) (fun j l m o=>ud (K (.exit 0)) a j l m o e g h i):=by kernel_rfl
theorem ah4 (α:Type)(K:KT α):∀ (n:Nat) (a b c d e g h i:Int),nF α a (fun j l m o=>ud (K (.exit 0)) a j l m o e g h i) n b c d=Bv (aJ (az Pg Ek2 OD tP) wR K n) a b c d e g h i:=by
 intro n
 induction n with
 | zero=>intros;rfl
 | succ n ih=>intro a b c d e g h i;exact (congrArg (fun kn=>ny α a b c d kn (fun j l m o=>ud (K (.exit 0)) a j l m o e g h i)) (funext fun b=>funext fun c=>funext fun d=>ih a b c d e g h i)).trans (ac5 α K (aJ (az Pg Ek2 OD tP) wR K n) a b c d e g h i).symm
theorem aiB:∀ (α:Type) (K:KT α),MQ vf α K=Eb.unc fun σ=>aJ (az Pg Ek2 OD tP) wR K aF σ:=aZ (fun α K=>funext fun a=>funext fun b=>funext fun c=>funext fun d=>funext fun e=>funext fun g=>funext fun h=>funext fun i=>ah4 α K aF a b c d e g h i)
def Xm (α:Type)(a b c:Int)(k1:Int->Int->Op α):Op α:=
 vf α c
 (fun g h d e=>k1 d e) 0 a b
def rM:fU:=sld Xm
def YN:PT (List DV):=pA [pV true [(dI .i64),(dI .i64),(dI .i64)],vI]
def TK (v:fU)(α:Type)(k:RT α):I4 (Op α):=fun a b c d=>v α a b d (fun e g=>xu k e g c)
def aqO:ag:=(ag.put (.m [⟨Eb,MQ vf⟩]) [1,0,1,0] (emb QL))
theorem aoA:ak Pg 251 21 ⟨YN,TK rM⟩:=iZ ek2 (ah Tryz.func251 (by kernel_rfl)) OD aqO ((an _ _).trans (aA _)) (aY (td:=wR) (by kernel_rfl) (aD QL) ⟨aiB,trivial⟩) fun _ _=>by kernel_rfl
def aFF:TG:=[tT 0 [0,1],tT 1 [0,1,6],tT 2 [1,6,7],tT 3 [1,6,7,22],tT 4 [4,5],tT 5 [1,6,7,8],tT 6 [1,6,7,8,26],tT 8 [1,6,7,8],tT 9 [1,6,7,8,35],tT 10 [1,6,7,8],tT 7 [1,6,7,8],tT 11 [4,5]]
def aGt:TG:=[tT 6 [1,6,7,8]]
def XJ:aq:=aw Pg Tryz.f271 aFF aGt
def pv:OT:=tdC (ag.sub [1,1,1,1,0,1,0] (emb XJ))
def D4:PT St:=pS [sI 1,sI 6,sI 7,sI 8] []
def C1 {β:Type}(g:St->β):I4 β:=D4.unc g
def adf:PT St:=pS [sI 1,sI 6,sI 7,sI 8,sl 26 (aV false [(cD dB)])] []
def uc {β:Type}(g:St->β):Int->Int->Int->Int->Bool->β:=adf.unc g
def ZQ:PT (List RV):=pRs [wI,wI]
def fp {β:Type}(g:List RV->β):Int->Int->β:=ZQ.unc g
def pY:ag:=ag.sub [1,1,1,1,0,1,0,0] (emb XJ)
def oc (α:Type)(d c b a:Int)(kn:Int->Int->Int->Op α)(k1:Int->Int->Int->Bool->Op α):Op α:=
 cK (decide (a < 20))
 (cK (decide (d<=(w64 (2*b))))
 (kn (w64 ((w64 (2*c))+1)) (w64 ((w64 (2*b)) - d)) (w64 (a+1)))
 (kn (w64 (2*c)) (w64 (2*b)) (w64 (a+1))))
 (k1 c b a (decide (a < 20)))
def l7 (α:Type)(a:Int)(k1:Int->Int->Int->Bool->Op α):Nat->Int->Int->Int->Op α
 | 0,_,_,_=>none
 | n+1,b,c,d=>oc α a b c d (l7 α a k1 n) k1
def HH (α:Type)(a:Int)(k1:Int->Int->Int->Bool->Op α)(b c d:Int):Op α:=l7 α a k1 aF b c d
abbrev G6:Type 1:=(α:Type)->Int->(Int->Int->Int->Bool->Op α)->Int->Int->Int->Op α
def vn:G6:=sld HH
def Me (v:G6)(α:Type)(K:KT α):I4 (Op α):=fun a b c d=>v α a (fun e g h i=>uc (K (.exit 0)) a e g h i) b c d
theorem afQ (α:Type)(K:KT α)(Kn:SK α)(a b c d:Int):C1 (fun σ=>az Pg Ek2 aO pY (bK (fun σ=>bq pv σ Kn) K) σ) a b c d=oc α a b c d (fun b c d=>C1 Kn a b c d) (fun e g h i=>uc (K (.exit 0)) a e g h i):=by kernel_rfl
theorem akx (α:Type)(K:KT α):∀ (n:Nat) (a b c d:Int),l7 α a (fun e g h i=>uc (K (.exit 0)) a e g h i) n b c d=C1 (aJ (az Pg Ek2 aO pY) pv K n) a b c d:=by
 intro n
 induction n with
 | zero=>intros;rfl
 | succ n ih=>intro a b c d;exact (congrArg (fun kn=>oc α a b c d kn (fun e g h i=>uc (K (.exit 0)) a e g h i)) (funext fun b=>funext fun c=>funext fun d=>ih a b c d)).trans (afQ α K (aJ (az Pg Ek2 aO pY) pv K n) a b c d).symm
theorem adi:∀ (α:Type) (K:KT α),Me vn α K=D4.unc fun σ=>aJ (az Pg Ek2 aO pY) pv K aF σ:=aZ (fun α K=>funext fun a=>funext fun b=>funext fun c=>funext fun d=>akx α K aF a b c d)
def V4 (α:Type)(c b:Int)(k1:Int->Int->Op α):Op α:=
 dz α c b
 (fun a=>cK (decide (268435456 < a))
 (k1 a (w64 (c - (w64 (a*b)))))
 (cK (decide (a < (-268435456)))
 (k1 a (w64 (c - (w64 (a*b)))))
 (vn α b
 (fun d e g h=>k1 d e) a (w64 (c - (w64 (a*b)))) 0)))
def ym:dV:=sld V4
def Zk (v:dV)(α:Type)(k:RT α):Int->Int->Op α:=fun a b=>v α a b (fun c d=>fp k c d)
def anf:ag:=(ag.put (.m [⟨D4,Me vn⟩]) [1,1,1,1,0,1,0] (emb XJ))
theorem anH:ak Pg 271 43 ⟨br,Zk ym⟩:=iZ ek2 (ah Tryz.func271 (by kernel_rfl)) aO anf ((an _ _).trans (aA _)) (aY (td:=pv) (by kernel_rfl) (aD XJ) ⟨adi,trivial⟩) fun _ _=>by kernel_rfl
def aCf:TG:=[tT 0 [0],tT 1 [2]]
def aB2:aq:=aw Pg Tryz.f272 aCf aC
def Xa (α:Type)(a:Int)(k1:Bool->Op α):Op α:=
 cL α a (-67108864) 67108864
 (fun b=>k1 b)
def pE:cV:=sld Xa
def UX (v:cV)(α:Type)(k:RT α):Int->Op α:=fun a=>v α a (fun b=>bi k b)
theorem at9:ak Pg 272 5 ⟨aU,UX pE⟩:=iP ek2 aB2 (ah Tryz.func272 (by kernel_rfl)) aO fun _ _=>by kernel_rfl
def aKq:TG:=[tT 0 [0],tT 1 [2]]
def aKH:aq:=aw Pg Tryz.f99 aKq aC
def agx (α:Type)(a:Int)(k1:Bool->Op α):Op α:=
 cL α a 5000 80000
 (fun b=>k1 b)
def Nr:cV:=sld agx
def alN (v:cV)(α:Type)(k:RT α):Int->Op α:=fun a=>v α a (fun b=>bi k b)
theorem azW:ak Pg 99 5 ⟨aU,alN Nr⟩:=iP ek2 aKH (ah Tryz.func99 (by kernel_rfl)) aO fun _ _=>by kernel_rfl
def aEc:TG:=[tT 0 [0],tT 1 [2]]
def aBD:aq:=aw Pg Tryz.f100 aEc aC
def KK (α:Type)(a:Int)(k1:Bool->Op α):Op α:=
 cL α a 0 80000
 (fun b=>k1 b)
def si:cV:=sld KK
def Rc (v:cV)(α:Type)(k:RT α):Int->Op α:=fun a=>v α a (fun b=>bi k b)
theorem atT:ak Pg 100 5 ⟨aU,Rc si⟩:=iP ek2 aBD (ah Tryz.func100 (by kernel_rfl)) aO fun _ _=>by kernel_rfl
def VH:SG:=[(8,iT),(14,iT)]
def aCu:TG:=[tT 0 [1,2,3],tT 1 [6]]
def aIb:aq:=aw Pg Tryz.f124 aCu aC
abbrev fV:Type 1:=(α:Type)->Int->Int->Int->Int->(Bool->Op α)->Op α
def Yq (α:Type)(c d a b:Int)(k1:Bool->Op α):Op α:=
 cL α c a b
 (fun e=>cK e
 (cL α d a b
 (fun g=>k1 g))
 (k1 false))
def yG:fV:=sld Yq
def fS:PT (List DV):=pA [pV true [(dI .i64),(dI .i64)],vI,vI]
def TF (v:fV)(α:Type)(k:RT α):I4 (Op α):=fun a b c d=>v α a b c d (fun e=>bi k e)
theorem au4:ak Pg 124 19 ⟨fS,TF yG⟩:=iP ek2 aIb (ah Tryz.func124 (by kernel_rfl)) VH fun _ _=>by kernel_rfl
def aEK:TG:=[tT 0 [1,2,3],tT 1 [6]]
def aG5:aq:=aw Pg Tryz.f123 aEK aC
def R6 (α:Type)(c d a b:Int)(k1:Bool->Op α):Op α:=
 cL α c a b
 (fun e=>cK e
 (cL α d a b
 (fun g=>k1 g))
 (k1 false))
def xA:fV:=sld R6
def Zj (v:fV)(α:Type)(k:RT α):I4 (Op α):=fun a b c d=>v α a b c d (fun e=>bi k e)
theorem auE:ak Pg 123 19 ⟨fS,Zj xA⟩:=iP ek2 aG5 (ah Tryz.func123 (by kernel_rfl)) VH fun _ _=>by kernel_rfl
def aDs:TG:=[tT 0 [0],tT 1 [2]]
def aD2:aq:=aw Pg Tryz.f121 aDs aC
def Yo (α:Type)(a:Int)(k1:Bool->Op α):Op α:=
 cL α a 0 2
 (fun b=>k1 b)
def Ky:cV:=sld Yo
def QW (v:cV)(α:Type)(k:RT α):Int->Op α:=fun a=>v α a (fun b=>bi k b)
theorem anh:ak Pg 121 5 ⟨aU,QW Ky⟩:=iP ek2 aD2 (ah Tryz.func121 (by kernel_rfl)) aO fun _ _=>by kernel_rfl
def aKO:TG:=[tT 0 [0,1],tT 1 [4]]
def aJK:aq:=aw Pg Tryz.f69 aKO aC
def akt (α:Type)(a b:Int)(k1:Int->Op α):Op α:=
 dz α (w64 (0 - a)) b
 (fun c=>k1 (w64 (0 - c)))
def cq:bz:=sld akt
def adD (v:bz)(α:Type)(k:RT α):Int->Int->Op α:=fun a b=>v α a b (fun c=>aR k c)
theorem axd:ak Pg 69 10 ⟨br,adD cq⟩:=iP ek2 aJK (ah Tryz.func69 (by kernel_rfl)) aO fun _ _=>by kernel_rfl
def aJe:SG:=[(8,iT),(15,iT),(22,iT),(24,iT)]
def aJx:TG:=[tT 0 [1,2,3],tT 1 [3,20],tT 2 [6],tT 3 [25],tT 4 [6],tT 5 [6]]
def aIV:aq:=aw Pg Tryz.f68 aJx aC
abbrev yD:Type 1:=(α:Type)->Int->Int->Int->Int->(Int->Op α)->Op α
def acZ (α:Type)(a b c d:Int)(k1:Int->Op α):Op α:=
 cL α a c d
 (fun e=>cK (!e)
 (k1 2)
 (cL α b c d
 (fun g=>cK (!g)
 (k1 2)
 (cK (decide (b < a))
 (k1 10)
 (k1 0)))))
def Mx:yD:=sld acZ
def ajm (v:yD)(α:Type)(k:RT α):I4 (Op α):=fun a b c d=>v α a b c d (fun e=>aR k e)
theorem ayp:ak Pg 68 26 ⟨fS,ajm Mx⟩:=iP ek2 aIV (ah Tryz.func68 (by kernel_rfl)) aJe fun _ _=>by kernel_rfl
def aFl:SG:=[(4,iS 2),(7,iT),(12,iT)]
def aHf:TG:=[tT 0 [1,2],tT 1 [1,2,3],tT 2 [2]]
def aFv:aq:=aw Pg Tryz.f151 aHf aC
def W4 (α:Type)(b c:Int)(k1:Int->Int->Op α):Op α:=
 ep α b c
 (fun a=>k1 a a)
def xP:dV:=sld W4
def Wc (v:dV)(α:Type)(k:RT α):Int->Int->Op α:=fun a b=>v α a b (fun c d=>gY k a c d b)
theorem aoa:ak Pg 151 15 ⟨ba,Wc xP⟩:=iP ek2 aFv (ah Tryz.func151 (by kernel_rfl)) aFl fun _ _=>by kernel_rfl
def awa:SG:=[(6,iS 2),(9,iS 2),(19,iT),(22,iT),(26,iT),(29,iT)]
def aHo:TG:=[tT 0 [1],tT 1 [1,3,4],tT 2 [4,11],tT 3 [2],tT 4 [34],tT 5 [2],tT 6 [2]]
def aj8:aq:=aw Pg Tryz.f119 aHo aC
def Ck:PT St:=pS [sP 1,sl 3 (aV false [(cD dB)]),sl 4 (aV false [(cD dB)])] [au 1 (xs 4)]
def aFf {β:Type}(g:St->β):Bool->Bool->I4 β:=Ck.unc g
def alM:PT St:=pS [sl 4 (aV false [(cD dB)]),sl 11 (aV false [(cD dB)])] []
def ajD {β:Type}(g:St->β):Bool->Bool->β:=alM.unc g
def afc:ag:=ag.sub [1,1,0,0,0] (emb aj8)
abbrev Gu:Type 1:=(α:Type)->Bool->Bool->Int->Int->Int->Int->(Bool->Op α)->Op α
def Fx (α:Type)(a b:Bool)(c d e g:Int)(k1:Bool->Op α):Op α:=
 cK a
 (cK (!b)
 (k1 true)
 (k1 (decide ((w64 (g - e))<=(w64 (d - c))))))
 (k1 false)
def wi:Gu:=sld Fx
def MS (v:Gu)(α:Type)(K:KT α):Bool->Bool->I4 (Op α):=fun b a c d e g=>v α b a c d e g (fun h=>ajD (K .normal) a h)
theorem akQ:∀ (α:Type) (K:KT α),MS wi α K=Ck.unc fun σ=>az Pg Ek2 awa afc K σ:=aZ (fun α K=>by kernel_rfl)
def VC (α:Type)(a b c d:Int)(k1:Int->Op α):Op α:=
 o3 α a b
 (fun g=>o3 α c d
 (fun e=>wi α g e a b c d
 (fun h=>cK h
 (k1 1)
 (cK e
 (k1 2)
 (k1 0)))))
def jt:yD:=sld VC
def Rt (v:yD)(α:Type)(k:RT α):I4 (Op α):=fun a b c d=>v α a b c d (fun e=>aR k e)
def ao3:ag:=(ag.put (.m [⟨Ck,MS wi⟩]) [1,1,0,0] (emb aj8))
theorem ap2:ak Pg 119 36 ⟨q8,Rt jt⟩:=iZ ek2 (ah Tryz.func119 (by kernel_rfl)) awa ao3 ((an _ _).trans (aA _)) (aM (by kernel_rfl) (aD aj8) ⟨akQ,trivial⟩) fun _ _=>by kernel_rfl
def Ls:SG:=[(10,[.sl])]
def aCo:TG:=[tT 0 [0],tT 1 [0,12,13],tT 2 [0,12,13,14],tT 3 [0,3,12,13],tT 4 [0,5,12,13],tT 5 [0,12,13,23],tT 6 [0,2],tT 7 [0,12,13],tT 8 [0,2]]
def aDV:TG:=[tT 2 [0,12,13]]
def Tt:aq:=aw Pg Tryz.f136 aCo aDV
def wB:OT:=tdC (ag.sub [1,0,1,0] (emb Tt))
def D1:PT St:=pSv [(0,500000000,0)] [sl 0 (aV false [(cB 500000000 0)]),sI 12,sI 13] [au 500000000 [xI,xI,xI,xI,xI,xI,xI,(cD dL),xI,xI]]
def B6 {β:Type}(g:St->β):Int->Int->Int->Int->Int->Int->Int->Int->Int->ae->Int->Int->β:=D1.unc g
def akk:PT St:=pSv [(0,500000000,0)] [sl 0 (aV false [(cB 500000000 0)]),sl 2 (aV false [(cD dB)])] [au 500000000 [xI,xI,xI,xI,xI,xI,xI,(cD dL),xI,xI]]
def uZ {β:Type}(g:St->β):Bool->Int->Int->Int->Int->Int->Int->Int->ae->Int->Int->β:=akk.unc g
def ajS:PT St:=pSv [(0,500000000,0)] [sl 0 (aV false [(cB 500000000 0)]),sI 12,sI 13,sl 14 (aV false [(cD dB)])] [au 500000000 [xI,xI,xI,xI,xI,xI,xI,(cD dL),xI,xI]]
def tI {β:Type}(g:St->β):Int->Int->Bool->Int->Int->Int->Int->Int->Int->Int->ae->Int->Int->β:=ajS.unc g
def abs:PT (List RV):=pRs [pR false [rD dB],pR true [rD (dI .i64),rD (dI .i64),rD (dI .i64),rD (dI .i64),rD (dI .i64),rD (dI .i64),rD (dI .i64),rD dL,rD (dI .i64),rD (dI .i64)]]
def abd {β:Type}(g:List RV->β):Bool->Int->Int->Int->Int->Int->Int->Int->ae->Int->Int->β:=abs.unc g
def uY:ag:=ag.sub [1,0,1,0,0] (emb Tt)
def oe (α:Type)(b c:Int)(d:ae)(e g a:Int)(kn:Int->Op α)(k1:Op α)(k2:Int->Bool->Op α):Op α:=
 cK (decide (a < b))
 (sA α c d e g a
 (fun i j h=>cK (h != 0)
 (k1)
 (kn (w64 (a+1)))))
 (k2 a (decide (a < b)))
def mf (α:Type)(a b:Int)(c:ae)(d e:Int)(k1:Op α)(k2:Int->Bool->Op α):Nat->Int->Op α
 | 0,_=>none
 | n+1,g=>oe α a b c d e g (mf α a b c d e k1 k2 n) k1 k2
def FX (α:Type)(a b:Int)(c:ae)(d e:Int)(k1:Op α)(k2:Int->Bool->Op α)(g:Int):Op α:=mf α a b c d e k1 k2 aF g
abbrev Fz:Type 1:=(α:Type)->Int->Int->ae->Int->Int->(Op α)->(Int->Bool->Op α)->Int->Op α
def vJ:Fz:=sld FX
def Mj (v:Fz)(α:Type)(K:KT α):Int->Int->Int->Int->Int->Int->Int->Int->Int->ae->Int->Int->Op α:=fun e o g a h i j l m b c d=>v α e a b c d (uZ (K .ret) true g a h i j l m b c d) (fun p q=>tI (K (.exit 0)) e p q g a h i j l m b c d) o
theorem adk (α:Type)(K:KT α)(Kn:SK α)(e g h a i j l m o:Int)(b:ae)(c d:Int):B6 (fun σ=>az Pg Ek2 Ls uY (bK (fun σ=>bq wB σ Kn) K) σ) e g h a i j l m o b c d=oe α e a b c d g (fun g=>B6 Kn e g h a i j l m o b c d) (uZ (K .ret) true h a i j l m o b c d) (fun p q=>tI (K (.exit 0)) e p q h a i j l m o b c d):=by kernel_rfl
theorem acg (α:Type)(K:KT α):∀ (n:Nat) (e o g a h i j l m:Int) (b:ae) (c d:Int),mf α e a b c d (uZ (K .ret) true g a h i j l m b c d) (fun p q=>tI (K (.exit 0)) e p q g a h i j l m b c d) n o=B6 (aJ (az Pg Ek2 Ls uY) wB K n) e o g a h i j l m b c d:=by
 intro n
 induction n with
 | zero=>intros;rfl
 | succ n ih=>intro e o g a h i j l m b c d;exact (congrArg (fun kn=>oe α e a b c d o kn (uZ (K .ret) true g a h i j l m b c d) (fun p q=>tI (K (.exit 0)) e p q g a h i j l m b c d)) (funext fun o=>ih e o g a h i j l m b c d)).trans (adk α K (aJ (az Pg Ek2 Ls uY) wB K n) e o g a h i j l m b c d).symm
theorem ahx:∀ (α:Type) (K:KT α),Mj vJ α K=D1.unc fun σ=>aJ (az Pg Ek2 Ls uY) wB K aF σ:=aZ (fun α K=>funext fun a=>funext fun b=>funext fun c=>funext fun d=>funext fun e=>funext fun g=>funext fun h=>funext fun i=>funext fun j=>funext fun l=>funext fun m=>funext fun o=>acg α K aF a b c d e g h i j l m o)
abbrev VJ:Type 1:=(α:Type)->Int->ae->Int->Int->(Bool->Op α)->Op α
def YE (α:Type)(b:Int)(a:ae)(c d:Int)(k1:Bool->Op α):Op α:=
 vJ α (w64 (((List.length a:Nat):Int)+2)) b a c d
 (k1 true)
 (fun e g=>k1 false) 0
def oF:VJ:=sld YE
def Tf:PT (List DV):=pA [pV false [(dMr [(dI .i64),(dI .i64),(dI .i64),(dI .i64),(dI .i64),(dI .i64),(dI .i64),dL,(dI .i64),(dI .i64)] 0)]]
def Sr (v:VJ)(α:Type)(k:RT α):Int->Int->Int->Int->Int->Int->Int->ae->Int->Int->Op α:=fun e a g h i j l b c d=>v α a b c d (fun m=>abd k m e a g h i j l b c d)
def atk:ag:=(ag.put (.m [⟨D1,Mj vJ⟩]) [1,0,1,0] (emb Tt))
theorem ang:ak Pg 136 25 ⟨Tf,Sr oF⟩:=iZ ek2 (ah Tryz.func136 (by kernel_rfl)) Ls atk ((an _ _).trans (aA _)) (aY (td:=wB) (by kernel_rfl) (aD Tt) ⟨ahx,trivial⟩) fun _ _=>by kernel_rfl
def awg:SG:=[(7,iT),(13,iT),(21,iT),(28,iT),(30,iT)]
def aBq:TG:=[tT 0 [1,2],tT 1 [2,5],tT 2 [4],tT 3 [26],tT 4 [4],tT 5 [4]]
def adG:aq:=aw Pg Tryz.f253 aBq aC
def Cr:PT St:=pS [sI 1,sP 2] [au 2 [xI,xI]]
def aH2 {β:Type}(g:St->β):Int->Int->Int->β:=Cr.unc g
def akw:PT St:=pS [sP 2,sl 5 (aV false [(cD dB)])] [au 2 [xI,xI]]
def C4 {β:Type}(g:St->β):Bool->Int->Int->β:=akw.unc g
def ahU:ag:=ag.sub [1,0,0,0] (emb adG)
def Hq (α:Type)(a c b:Int)(k1:Bool->Op α):Op α:=
 kI α c a 1099511627776
 (fun d=>cK (!d)
 (k1 true)
 (cK (decide (1099511627776 < b))
 (k1 true)
 (cK (decide (a < 0))
 (k1 (decide (b < a)))
 (k1 false))))
def tv:ch:=sld Hq
def N9 (v:ch)(α:Type)(K:KT α):Int->Int->Int->Op α:=fun c a b=>v α c a b (fun d=>C4 (K .normal) d a b)
theorem ahI:∀ (α:Type) (K:KT α),N9 tv α K=Cr.unc fun σ=>az Pg Ek2 awg ahU K σ:=aZ (fun α K=>by kernel_rfl)
abbrev AE:Type 1:=(α:Type)->Int->Int->Int->(Int->Op α)->Op α
def UT (α:Type)(a b c:Int)(k1:Int->Op α):Op α:=
 tv α c a b
 (fun d=>cK d
 (k1 2)
 (cK (decide (b < a))
 (k1 10)
 (k1 0)))
def xU:AE:=sld UT
def TZ (v:AE)(α:Type)(k:RT α):Int->Int->Int->Op α:=fun a b c=>v α a b c (fun d=>aR k d)
def atY:ag:=(ag.put (.m [⟨Cr,N9 tv⟩]) [1,0,0] (emb adG))
theorem apl:ak Pg 253 32 ⟨zZ,TZ xU⟩:=iZ ek2 (ah Tryz.func253 (by kernel_rfl)) awg atY ((an _ _).trans (aA _)) (aM (by kernel_rfl) (aD adG) ⟨ahI,trivial⟩) fun _ _=>by kernel_rfl
def aE6:TG:=[tT 0 [0],tT 1 [2]]
def aCV:aq:=aw Pg Tryz.f260 aE6 aC
def Tj (α:Type)(a:Int)(k1:Int->Op α):Op α:=
 gz α a
 (fun b=>k1 (w64 (64 - b)))
def Cw:cg:=sld Tj
def QV (v:cg)(α:Type)(k:RT α):Int->Op α:=fun a=>v α a (fun b=>aR k b)
theorem apc:ak Pg 260 6 ⟨AL,QV Cw⟩:=iP ek2 aCV (ah Tryz.func260 (by kernel_rfl)) aO fun _ _=>by kernel_rfl
def awh:SG:=[(7,iS 2),(9,iS 2),(12,iT),(14,iT)]
def aEz:TG:=[tT 0 [2,3,4],tT 1 [4,5]]
def aAi:aq:=aw Pg Tryz.f227 aEz aC
def aaL:PT (List RV):=pRs [pR true [rD (dI .i64),rD (dI .i64),rD (dI .i64)],wI]
def bD {β:Type}(g:List RV->β):I4 β:=aaL.unc g
abbrev fM:Type 1:=(α:Type)->Int->Int->Int->Int->Int->Int->(Int->Int->Int->Op α)->Op α
def UC (α:Type)(a b c d e g:Int)(k1:Int->Int->Int->Op α):Op α:=
 ID α a b d e
 (fun h i=>k1 h i (w64 (c+g)))
def JS:fM:=sld UC
def dS:PT (List DV):=pA [pV true [(dI .i64),(dI .i64),(dI .i64)],pV true [(dI .i64),(dI .i64),(dI .i64)]]
def Yy (v:fM)(α:Type)(k:RT α):I6 (Op α):=fun a b c d e g=>v α a b c d e g (fun h i j=>bD k h i j 0)
theorem aue:ak Pg 227 17 ⟨dS,Yy JS⟩:=iP ek2 aAi (ah Tryz.func227 (by kernel_rfl)) awh fun _ _=>by kernel_rfl
def aDh:TG:=[tT 0 [0,1],tT 1 [4]]
def aDx:aq:=aw Pg Tryz.f168 aDh aC
def HY (α:Type)(a b:Int)(k1:Int->Op α):Op α:=
 gi α (w64 (0 - a)) b
 (fun c=>k1 (w64 (0 - c)))
def cC:bz:=sld HY
def Ts (v:bz)(α:Type)(k:RT α):Int->Int->Op α:=fun a b=>v α a b (fun c=>aR k c)
theorem aph:ak Pg 168 10 ⟨br,Ts cC⟩:=iP ek2 aDx (ah Tryz.func168 (by kernel_rfl)) aO fun _ _=>by kernel_rfl
def aGl:TG:=[tT 0 [0],tT 1 [0,3],tT 2 [0,3,12],tT 3 [0,3],tT 4 [0,3,21],tT 5 [0,3],tT 6 [2]]
def aEE:TG:=[tT 2 [0,3],tT 4 [0,3]]
def Gq:aq:=aw Pg Tryz.f198 aGl aEE
def vr:OT:=tdC (ag.sub [1,1,0,0] (emb Gq))
def pP:OT:=tdC (ag.sub [1,1,1,0,0] (emb Gq))
def ahO:PT St:=pS [sI 0,sI 3,sl 12 (aV false [(cD dB)])] []
def vc {β:Type}(g:St->β):Int->Int->Bool->β:=ahO.unc g
def alj:PT St:=pS [sI 0,sI 3,sl 21 (aV false [(cD dB)])] []
def u9 {β:Type}(g:St->β):Int->Int->Bool->β:=alj.unc g
def qH:ag:=ag.sub [1,1,1,0,0,0] (emb Gq)
def nZ (α:Type)(b a:Int)(kn:Int->Op α)(k1:Int->Bool->Op α):Op α:=
 cK (decide ((w64 ((w64 (a+1))*(w64 (a+1))))<=b))
 (kn (w64 (a+1)))
 (k1 a (decide ((w64 ((w64 (a+1))*(w64 (a+1))))<=b)))
def fy (α:Type)(a:Int)(k1:Int->Bool->Op α):Nat->Int->Op α
 | 0,_=>none
 | n+1,b=>nZ α a b (fy α a k1 n) k1
def G9 (α:Type)(a:Int)(k1:Int->Bool->Op α)(b:Int):Op α:=fy α a k1 aF b
def lT:jb:=sld G9
def Mw (v:jb)(α:Type)(K:KT α):Int->Int->Op α:=fun a b=>v α a (fun c d=>u9 (K (.exit 2)) a c d) b
theorem ajk (α:Type)(K:KT α)(Kn:SK α)(a b:Int):gM (fun σ=>az Pg Ek2 aO qH (bK (fun σ=>bq pP σ Kn) K) σ) a b=nZ α a b (fun b=>gM Kn a b) (fun c d=>u9 (K (.exit 2)) a c d):=by kernel_rfl
theorem adO (α:Type)(K:KT α):∀ (n:Nat) (a b:Int),fy α a (fun c d=>u9 (K (.exit 2)) a c d) n b=gM (aJ (az Pg Ek2 aO qH) pP K n) a b:=by
 intro n
 induction n with
 | zero=>intros;rfl
 | succ n ih=>intro a b;exact (congrArg (fun kn=>nZ α a b kn (fun c d=>u9 (K (.exit 2)) a c d)) (funext fun b=>ih a b)).trans (ajk α K (aJ (az Pg Ek2 aO qH) pP K n) a b).symm
theorem afK:∀ (α:Type) (K:KT α),Mw lT α K=jj.unc fun σ=>aJ (az Pg Ek2 aO qH) pP K aF σ:=aZ (fun α K=>funext fun a=>funext fun b=>adO α K aF a b)
def ti:ag:=ag.sub [1,1,0,0,0] (emb Gq)
def lW (α:Type)(b a:Int)(kn:Int->Op α)(k1:Int->Bool->Op α):Op α:=
 cK (decide (b < (w64 (a*a))))
 (kn (w64 (a - 1)))
 (k1 a (decide (b < (w64 (a*a)))))
def fj (α:Type)(a:Int)(k1:Int->Bool->Op α):Nat->Int->Op α
 | 0,_=>none
 | n+1,b=>lW α a b (fj α a k1 n) k1
def GQ (α:Type)(a:Int)(k1:Int->Bool->Op α)(b:Int):Op α:=fj α a k1 aF b
def lr:jb:=sld GQ
def NC (v:jb)(α:Type)(K:KT α):Int->Int->Op α:=fun a b=>v α a (fun c d=>vc (K (.exit 0)) a c d) b
theorem acJ (α:Type)(K:KT α)(Kn:SK α)(a b:Int):gM (fun σ=>az Pg Ek2 aO ti (bK (fun σ=>bq vr σ Kn) K) σ) a b=lW α a b (fun b=>gM Kn a b) (fun c d=>vc (K (.exit 0)) a c d):=by kernel_rfl
theorem aly (α:Type)(K:KT α):∀ (n:Nat) (a b:Int),fj α a (fun c d=>vc (K (.exit 0)) a c d) n b=gM (aJ (az Pg Ek2 aO ti) vr K n) a b:=by
 intro n
 induction n with
 | zero=>intros;rfl
 | succ n ih=>intro a b;exact (congrArg (fun kn=>lW α a b kn (fun c d=>vc (K (.exit 0)) a c d)) (funext fun b=>ih a b)).trans (acJ α K (aJ (az Pg Ek2 aO ti) vr K n) a b).symm
theorem afB:∀ (α:Type) (K:KT α),NC lr α K=jj.unc fun σ=>aJ (az Pg Ek2 aO ti) vr K aF σ:=aZ (fun α K=>funext fun a=>funext fun b=>aly α K aF a b)
def P5 (α:Type)(a:Int)(k1:Int->Op α):Op α:=
 IY α (FloatKind.nearest .f64 a)
 (fun b=>ivK (f2i .f64 b .i64)
 (fun c=>lr α a
 (fun d g=>lT α a
 (fun e h=>k1 e) d) c))
def eF:cg:=sld P5
def Xn (v:cg)(α:Type)(k:RT α):Int->Op α:=fun a=>v α a (fun b=>aR k b)
def arU:ag:=(ag.put (.m [⟨jj,NC lr⟩]) [1,1,0,0] (ag.put (.m [⟨jj,Mw lT⟩]) [1,1,1,0,0] (emb Gq)))
theorem aoc:ak Pg 198 25 ⟨aU,Xn eF⟩:=iZ ek2 (ah Tryz.func198 (by kernel_rfl)) aO arU ((an _ _).trans ((an _ _).trans (aA _))) (aY (td:=vr) (by kernel_rfl) (aY (td:=pP) (by kernel_rfl) (aD Gq) ⟨afK,trivial⟩) ⟨afB,trivial⟩) fun _ _=>by kernel_rfl
def aB9:TG:=[tT 0 [2,3,4],tT 1 [4,5]]
def aGk:aq:=aw Pg Tryz.f217 aB9 aC
def RQ (α:Type)(a b c d e g:Int)(k1:Int->Int->Int->Op α):Op α:=
 yB α a b d e
 (fun h i=>k1 h i (w64 (c+g)))
def JC:fM:=sld RQ
def XY (v:fM)(α:Type)(k:RT α):I6 (Op α):=fun a b c d e g=>v α a b c d e g (fun h i j=>bD k h i j 0)
theorem atz:ak Pg 217 17 ⟨dS,XY JC⟩:=iP ek2 aGk (ah Tryz.func217 (by kernel_rfl)) awh fun _ _=>by kernel_rfl
def aJd:TG:=[tT 0 [0,1],tT 1 [0,1,6],tT 2 [0],tT 3 [0,10],tT 4 [0],tT 5 [4]]
def aIT:aq:=aw Pg Tryz.f84 aJd aC
abbrev ajo:Type 1:=(α:Type)->Nat->Int->(Bool->Op α)->Op α
def acE (α:Type)(a:Nat)(b:Int)(k1:Bool->Op α):Op α:=
 cK (b == 0)
 (yr α a
 (fun c=>k1 ((FloatKind.format .f64).order c 9218868437227405311 == some Ordering.gt)))
 (cK (decide (b < 0))
 (k1 ((FloatKind.format .f64).order (Op.negFloat .f64 a) 9218868437227405311 == some Ordering.gt))
 (k1 ((FloatKind.format .f64).order a 9218868437227405311 == some Ordering.gt)))
def Xu:ajo:=sld acE
def akL:PT (List DV):=pA [pV false [(dF .f64)],vI]
def ajl (v:ajo)(α:Type)(k:RT α):Nat->Int->Op α:=fun a b=>v α a b (fun c=>bi k c)
theorem axC:ak Pg 84 15 ⟨akL,ajl Xu⟩:=iP ek2 aIT (ah Tryz.func84 (by kernel_rfl)) aO fun _ _=>by kernel_rfl
def aG2:TG:=[tT 0 [0,1],tT 1 [4,5]]
def aHg:aq:=aw Pg Tryz.f221 aG2 aC
def XP (α:Type)(b a:Int)(k1:Int->Bool->Op α):Op α:=
 gi α (w64 ((w64 (2*b))+a)) (w64 (2*a))
 (fun c=>gK (a != 0) (k1 c ((Int.tmod b a) != 0)))
def mt:qu:=sld XP
def Zy (v:qu)(α:Type)(k:RT α):Int->Int->Op α:=fun a b=>v α a b (fun c d=>qU k c d)
theorem apq:ak Pg 221 17 ⟨br,Zy mt⟩:=iP ek2 aHg (ah Tryz.func221 (by kernel_rfl)) aO fun _ _=>by kernel_rfl
def aGN:TG:=[tT 0 [0,1],tT 1 [4]]
def aBs:aq:=aw Pg Tryz.f197 aGN aC
def Rr (α:Type)(b a:Int)(k1:Bool->Op α):Op α:=
 kI α b (w64 (0 - a)) a
 (fun c=>k1 c)
def j0:bI:=sld Rr
def V5 (v:bI)(α:Type)(k:RT α):Int->Int->Op α:=fun a b=>v α a b (fun c=>bi k c)
theorem atW:ak Pg 197 10 ⟨br,V5 j0⟩:=iP ek2 aBs (ah Tryz.func197 (by kernel_rfl)) aO fun _ _=>by kernel_rfl
def aBc:TG:=[tT 0 [0],tT 1 [2]]
def aBo:aq:=aw Pg Tryz.f117 aBc aC
def Vl (α:Type)(a:Int)(k1:Bool->Op α):Op α:=
 nD α a 1000 200000
 (fun b=>k1 b)
def DU:cV:=sld Vl
def Th (v:cV)(α:Type)(k:RT α):Int->Op α:=fun a=>v α a (fun b=>bi k b)
theorem aqf:ak Pg 117 5 ⟨aU,Th DU⟩:=iP ek2 aBo (ah Tryz.func117 (by kernel_rfl)) aO fun _ _=>by kernel_rfl
def aAo:TG:=[tT 0 [0],tT 1 [2]]
def aCQ:aq:=aw Pg Tryz.f116 aAo aC
def QY (α:Type)(a:Int)(k1:Bool->Op α):Op α:=
 nD α a 0 9999
 (fun b=>k1 b)
def Di:cV:=sld QY
def Vd (v:cV)(α:Type)(k:RT α):Int->Op α:=fun a=>v α a (fun b=>bi k b)
theorem are:ak Pg 116 5 ⟨aU,Vd Di⟩:=iP ek2 aCQ (ah Tryz.func116 (by kernel_rfl)) aO fun _ _=>by kernel_rfl
def aCY:TG:=[tT 0 [1,2,3],tT 1 [6]]
def aCb:aq:=aw Pg Tryz.f149 aCY aC
def P6 (α:Type)(c d a b:Int)(k1:Bool->Op α):Op α:=
 oq α c a b
 (fun e=>cK e
 (oq α d a b
 (fun g=>k1 g))
 (k1 false))
def yF:fV:=sld P6
def Zo (v:fV)(α:Type)(k:RT α):I4 (Op α):=fun a b c d=>v α a b c d (fun e=>bi k e)
theorem atR:ak Pg 149 19 ⟨fS,Zo yF⟩:=iP ek2 aCb (ah Tryz.func149 (by kernel_rfl)) VH fun _ _=>by kernel_rfl
def aBM:SG:=[(4,iT),(8,iT)]
def aH0:TG:=[tT 0 [1],tT 1 [2]]
def aBX:aq:=aw Pg Tryz.f148 aH0 aC
def Vs (α:Type)(a b:Int)(k1:Bool->Op α):Op α:=
 oq α a 0 2
 (fun c=>cK c
 (oq α b 0 1
 (fun d=>k1 d))
 (k1 false))
def D9:bI:=sld Vs
def VB (v:bI)(α:Type)(k:RT α):I9 (Op α):=fun a b d e g h i j l=>v α a b (fun c=>bi k c)
theorem aq0:ak Pg 148 11 ⟨kU,VB D9⟩:=iP ek2 aBX (ah Tryz.func148 (by kernel_rfl)) aBM fun _ _=>by kernel_rfl
def aKs:TG:=[tT 0 [0],tT 1 [2]]
def aLl:aq:=aw Pg Tryz.f79 aKs aC
def Ph (α:Type)(a:Int)(k1:Bool->Op α):Op α:=
 nD α a 0 1000000
 (fun b=>k1 b)
def CH:cV:=sld Ph
def akT (v:cV)(α:Type)(k:RT α):Int->Op α:=fun a=>v α a (fun b=>bi k b)
theorem ayK:ak Pg 79 5 ⟨aU,akT CH⟩:=iP ek2 aLl (ah Tryz.func79 (by kernel_rfl)) aO fun _ _=>by kernel_rfl
def aKu:TG:=[tT 0 [0],tT 1 [2]]
def aKe:aq:=aw Pg Tryz.f78 aKu aC
def JD (α:Type)(a:Int)(k1:Bool->Op α):Op α:=
 nD α a 0 80000
 (fun b=>k1 b)
def zk:cV:=sld JD
def akp (v:cV)(α:Type)(k:RT α):Int->Op α:=fun a=>v α a (fun b=>bi k b)
theorem awE:ak Pg 78 5 ⟨aU,akp zk⟩:=iP ek2 aKe (ah Tryz.func78 (by kernel_rfl)) aO fun _ _=>by kernel_rfl
def aJt:TG:=[tT 0 [0],tT 1 [2]]
def aK7:aq:=aw Pg Tryz.f77 aJt aC
def Kq (α:Type)(a:Int)(k1:Bool->Op α):Op α:=
 nD α a 5000 80000
 (fun b=>k1 b)
def rg:cV:=sld Kq
def ag6 (v:cV)(α:Type)(k:RT α):Int->Op α:=fun a=>v α a (fun b=>bi k b)
theorem awA:ak Pg 77 5 ⟨aU,ag6 rg⟩:=iP ek2 aK7 (ah Tryz.func77 (by kernel_rfl)) aO fun _ _=>by kernel_rfl
def aKt:TG:=[tT 0 [1,2,3],tT 1 [6]]
def aJ0:aq:=aw Pg Tryz.f76 aKt aC
def amp (α:Type)(c d a b:Int)(k1:Bool->Op α):Op α:=
 oQ α c a b
 (fun e=>cK e
 (oQ α d a b
 (fun g=>k1 g))
 (k1 false))
def K7:fV:=sld amp
def af3 (v:fV)(α:Type)(k:RT α):I4 (Op α):=fun a b c d=>v α a b c d (fun e=>bi k e)
theorem azB:ak Pg 76 19 ⟨fS,af3 K7⟩:=iP ek2 aJ0 (ah Tryz.func76 (by kernel_rfl)) VH fun _ _=>by kernel_rfl
def aK4:SG:=[(4,[.sl]),(7,[.sl]),(11,[.sl]),(16,[.sl,.sl,.int .i64,.sl,.int .i64,.int .i64])]
def aJ9:TG:=[(0,⟨[1,2],true,[⟨true,2,0,30200,3⟩,⟨true,2,1,30201,2⟩,⟨true,2,3,30203,9⟩],[]⟩),(1,⟨[1,2],true,[⟨true,2,0,30200,3⟩,⟨true,2,1,30201,2⟩,⟨true,2,3,30203,9⟩],[]⟩),(2,⟨[2],true,[⟨true,2,0,30200,3⟩,⟨true,2,1,30201,2⟩,⟨true,2,3,30203,9⟩],[]⟩)]
def aKy:aq:=aw Pg Tryz.f10 aJ9 aC
def ad4:PT (List RV):=pRs [pR true [rO 3,rO 2,rD (dI .i64),rO 9,rD (dI .i64),rD (dI .i64)]]
def adv {β:Type}(g:List RV->β):ae->ae->Int->ae->Int->Int->β:=ad4.unc g
abbrev aeI:Type 1:=(α:Type)->ae->ae->ae->(ae->ae->ae->Op α)->Op α
def adN (α:Type)(b c a:ae)(k1:ae->ae->ae->Op α):Op α:=
 Sj α b
 (fun d=>RW α c
 (fun e=>gK (cy 9 72 ([]:ae) a) (k1 d e (([]:ae)++a))))
def FJ:aeI:=sld adN
def ads (v:aeI)(α:Type)(k:RT α):ae->ae->Int->ae->Int->Int->Op α:=fun a b c d e g=>v α a b d (fun h i j=>adv k h i c j e g)
theorem axD:ak Pg 10 17 ⟨eM,ads FJ⟩:=iP ek2 aKy (ah Tryz.func10 (by kernel_rfl)) aK4 fun _ _=>by kernel_rfl
def sh7:SG:=[(5,[.sl,.sl,.int .i64,.sl,.int .i64,.int .i64]),(10,[.sl]),(15,[.sl]),(22,[.sl]),(28,[.sl]),(34,[.sl]),(36,iS 9),(37,iS 9),(40,iT),(45,iT),(48,iT),(55,iT),(60,iT),(63,iT)]
def tr7:TG:=[tT 0 [1],tT 1 [1,25],tT 2 [2],tT 3 [1,3],tT 4 [1,3,30],tT 6 [1,3,4],tT 7 [1,3,67],tT 8 [2],tT 5 [1,3],tT 9 [2]]
def tl7:TG:=[(4,⟨[1,3],true,[⟨true,1,0,30100,3⟩,⟨true,1,1,30101,2⟩,⟨true,1,3,30103,9⟩],[]⟩)]
def ac7:aq:=aw Pg Tryz.f7 tr7 tl7
def CG:OT:=tdC (ag.sub [1,1,0,1,0] (emb ac7))
def PE:PT St:=pS [sP 1] [au 1 [(cD dL),(cD dL),xI,(cD dL),xI,xI]]
def aJO {β:Type}(g:St->β):ae->ae->Int->ae->Int->Int->β:=PE.unc g
def ayA:PT St:=pS [sl 2 (aV false [(cD dB)])] []
def Dl {β:Type}(g:St->β):Bool->β:=ayA.unc g
def axQ:PT St:=pS [sP 1,sl 25 (aV false [(cD dB)])] [au 1 [(cD dL),(cD dL),xI,(cD dL),xI,xI]]
def aw7 {β:Type}(g:St->β):Bool->ae->ae->Int->ae->Int->Int->β:=axQ.unc g
def J6:PT St:=pS [sP 1,sI 3,sP 4] [au 1 [(cD dL),(cD dL),xI,(cD dL),xI,xI],au 4 (xs 9)]
def aI3 {β:Type}(g:St->β):Int->ae->ae->Int->ae->I11 β:=J6.unc g
def axy:PT St:=pS [sP 1,sI 3,sl 67 (aV false [(cD dB)])] [au 1 [(cD dL),(cD dL),xI,(cD dL),xI,xI]]
def ayr {β:Type}(g:St->β):Int->Bool->ae->ae->Int->ae->Int->Int->β:=axy.unc g
def O3:PT St:=pS [sP 1,sI 3] [au 1 [(cD dL),(cD dL),xI,(cD dL),xI,xI]]
def PI {β:Type}(g:St->β):Int->ae->ae->Int->ae->Int->Int->β:=O3.unc g
def ayH:PT St:=pS [sP 1,sI 3,sl 30 (aV false [(cD dB)])] [au 1 [(cD dL),(cD dL),xI,(cD dL),xI,xI]]
def Ip {β:Type}(g:St->β):Int->Bool->ae->ae->Int->ae->Int->Int->β:=ayH.unc g
def arb:ag:=ag.sub [1,1,0,1,0,0,1,0,0,1,0] (emb ac7)
def Zp (α:Type)(a b c d:Int)(k1:Bool->Op α):Op α:=
 cL α c 1000 200000
 (fun e=>cK e
 (cL α d (w64 (c+200)) 200000
 (fun g=>cK g
 (k1 true)
 (cL α a 0 9999
 (fun h=>cK h
 (cL α b (w64 (a+200)) 9999
 (fun i=>k1 i))
 (k1 false)))))
 (cL α a 0 9999
 (fun j=>cK j
 (cL α b (w64 (a+200)) 9999
 (fun l=>k1 l))
 (k1 false))))
def xM:fV:=sld Zp
def OR (v:fV)(α:Type)(K:KT α):Int->ae->ae->Int->ae->I11 (Op α):=fun a b c d e g h p q r i j l m s t=>v α i j l m (fun o=>ayr (K .normal) a o b c d e g h)
theorem ax6:∀ (α:Type) (K:KT α),OR xM α K=J6.unc fun σ=>az Pg Ek2 sh7 arb K σ:=aZ (fun α K=>by kernel_rfl)
def AH:ag:=ag.sub [1,1,0,1,0,0] (ag.put (.m [⟨J6,OR xM⟩]) [1,1,0,1,0,0,1,0,0,1] (emb ac7))
def Ep (α:Type)(b:ae)(a:Int)(kn:Int->Op α)(k1:Op α)(k2:Int->Bool->Op α):Op α:=
 cK (decide (a < ((List.length b:Nat):Int)))
 (dG b a [.int .i64,.int .i64,.int .i64,.int .i64,.int .i64,.int .i64,.int .i64,.int .i64,.int .i64]
 (fun i j l c d e g m o=>xM α c d e g
 (fun h=>cK h
 (k1)
 (kn (w64 (a+1))))))
 (k2 a (decide (a < ((List.length b:Nat):Int))))
def sd (α:Type)(a:ae)(k1:Op α)(k2:Int->Bool->Op α):Nat->Int->Op α
 | 0,_=>none
 | n+1,b=>Ep α a b (sd α a k1 k2 n) k1 k2
def T4 (α:Type)(a:ae)(k1:Op α)(k2:Int->Bool->Op α)(b:Int):Op α:=sd α a k1 k2 aF b
abbrev AQ:Type 1:=(α:Type)->ae->(Op α)->(Int->Bool->Op α)->Int->Op α
def m6:AQ:=sld T4
def ac0 (v:AQ)(α:Type)(K:KT α):Int->ae->ae->Int->ae->Int->Int->Op α:=fun b c d e a g h=>v α a (Dl (K .ret) false) (fun i j=>Ip (K (.exit 0)) i j c d e a g h) b
theorem aw1 (α:Type)(K:KT α)(Kn:SK α)(a:Int)(c d:ae)(e:Int)(b:ae)(g h:Int):PI (fun σ=>az Pg Ek2 sh7 AH (bK (fun σ=>bq CG σ Kn) K) σ) a c d e b g h=Ep α b a (fun a=>PI Kn a c d e b g h) (Dl (K .ret) false) (fun i j=>Ip (K (.exit 0)) i j c d e b g h):=by kernel_rfl
theorem aw9 (α:Type)(K:KT α):∀ (n:Nat) (b:Int) (c d:ae) (e:Int) (a:ae) (g h:Int),sd α a (Dl (K .ret) false) (fun i j=>Ip (K (.exit 0)) i j c d e a g h) n b=PI (aJ (az Pg Ek2 sh7 AH) CG K n) b c d e a g h:=by
 intro n
 induction n with
 | zero=>intros;rfl
 | succ n ih=>intro b c d e a g h;exact (congrArg (fun kn=>Ep α a b kn (Dl (K .ret) false) (fun i j=>Ip (K (.exit 0)) i j c d e a g h)) (funext fun b=>ih b c d e a g h)).trans (aw1 α K (aJ (az Pg Ek2 sh7 AH) CG K n) b c d e a g h).symm
theorem awm:∀ (α:Type) (K:KT α),ac0 m6 α K=O3.unc fun σ=>aJ (az Pg Ek2 sh7 AH) CG K aF σ:=aZ (fun α K=>funext fun a=>funext fun b=>funext fun c=>funext fun d=>funext fun e=>funext fun g=>funext fun h=>aw9 α K aF a b c d e g h)
def awU:ag:=ag.sub [1,0] (emb ac7)
abbrev WR:Type 1:=(α:Type)->ae->ae->ae->(Op α)->(Bool->Op α)->Op α
def Ut (α:Type)(b c a:ae)(k1:Op α)(k2:Bool->Op α):Op α:=
 Yv α b c a
 (fun d=>cK (!d)
 (k1)
 (cK (decide (3 < ((List.length b:Nat):Int)))
 (cK (decide (((List.length b:Nat):Int)<=40))
 (k1)
 (cK (decide (2 < ((List.length a:Nat):Int)))
 (k1)
 (k2 (decide (2 < ((List.length a:Nat):Int))))))
 (cK (decide (2 < ((List.length a:Nat):Int)))
 (k1)
 (k2 (decide (2 < ((List.length a:Nat):Int)))))))
def JF:WR:=sld Ut
def afG (v:WR)(α:Type)(K:KT α):ae->ae->Int->ae->Int->Int->Op α:=fun a b d c e g=>v α a b c (Dl (K .ret) false) (fun h=>aw7 (K .normal) h a b d c e g)
theorem azi:∀ (α:Type) (K:KT α),afG JF α K=PE.unc fun σ=>az Pg Ek2 sh7 awU K σ:=aZ (fun α K=>by kernel_rfl)
def avz (α:Type)(b c a:ae)(k1:Bool->Op α):Op α:=
 JF α b c a
 (k1 false)
 (fun d=>m6 α a
 (k1 false)
 (fun e g=>k1 true) 0)
def alr:Ks:=sld avz
def awd (v:Ks)(α:Type)(k:RT α):ae->ae->Int->ae->Int->Int->Op α:=fun a b e c g h=>v α a b c (fun d=>bi k d)
def aC0:ag:=(ag.put (.m [⟨PE,afG JF⟩]) [1] (ag.put (.m [⟨O3,ac0 m6⟩]) [1,1,0,1,0] (ag.put (.m [⟨J6,OR xM⟩]) [1,1,0,1,0,0,1,0,0,1] (emb ac7))))
theorem aIg:ak Pg 7 68 ⟨eM,awd alr⟩:=iZ ek2 (ah Tryz.func7 (by kernel_rfl)) sh7 aC0 ((an _ _).trans ((an _ _).trans ((an _ _).trans (aA _)))) (aM (by kernel_rfl) (aY (td:=CG) (by kernel_rfl) (aM (by kernel_rfl) (aD ac7) ⟨ax6,trivial⟩) ⟨awm,trivial⟩) ⟨azi,trivial⟩) fun _ _=>by kernel_rfl
def avU:SG:=[(8,iS 4),(9,iS 4),(12,iS 2),(15,iS 2),(22,iS 2),(25,iS 2),(31,iS 4),(32,iS 4)]
def aBI:TG:=[tT 0 [1,2,4,5],tT 1 [1,2,4,5,6,7],tT 2 [2,4,5,6,7,10],tT 3 [4,5,6,7],tT 4 [4,5,6,7],tT 5 [4,5]]
def aco:aq:=aw Pg Tryz.f105 aBI aC
def CA:PT St:=pS [sl 1 (aV false [(cD dB)]),sP 2,sP 4,sP 5,sP 6,sP 7] [au 2 (xs 4),au 4 (xs 4),au 5 (xs 4),au 6 (xs 4),au 7 (xs 4)]
def aDy {β:Type}(g:St->β):Bool->I20 β:=CA.unc g
def akV:PT St:=pS [sP 4,sP 5,sP 6,sP 7] [au 4 (xs 4),au 5 (xs 4),au 6 (xs 4),au 7 (xs 4)]
def ams {β:Type}(g:St->β):I16 β:=akV.unc g
def abW:PT (List RV):=pRs [pR true [rD (dI .i64),rD (dI .i64),rD (dI .i64),rD (dI .i64)],pR true [rD (dI .i64),rD (dI .i64),rD (dI .i64),rD (dI .i64)]]
def abL {β:Type}(g:List RV->β):I8 β:=abW.unc g
def ai2:ag:=ag.sub [1,1,0] (emb aco)
abbrev HR:Type 1:=(α:Type)->Bool->Int->Int->Int->Int->Int->Int->Int->Int->(I4 (Op α))->Op α
def F9 (α:Type)(e:Bool)(a b c d g h i j:Int)(k1:I4 (Op α)):Op α:=
 cK e
 (dC α a b
 (fun l=>dC α a b
 (fun m=>k1 l h m j)))
 (dC α c d
 (fun o=>dC α c d
 (fun p=>k1 g o i p)))
def vY:HR:=sld F9
def K9 (v:HR)(α:Type)(K:KT α):Bool->I20 (Op α):=fun a b c d e g h i j l m o p q r s t w z A B=>v α a b c d e r t w A (fun C D F G=>ams (K .normal) g h i j l m o p q C s D F z G B)
theorem acO:∀ (α:Type) (K:KT α),K9 vY α K=CA.unc fun σ=>az Pg Ek2 avU ai2 K σ:=aZ (fun α K=>by kernel_rfl)
abbrev Xo:Type 1:=(α:Type)->Int->Int->Int->Int->Bool->(I4 (Op α))->Op α
def W5 (α:Type)(a b c d:Int)(e:Bool)(k1:I4 (Op α)):Op α:=
 vY α e a b c d b d a c
 (fun g h i j=>k1 g h i j)
def ea:Xo:=sld W5
def VU:PT (List DV):=pA [pV true [(dI .i64),(dI .i64),(dI .i64),(dI .i64)],pV false [dB]]
def Ti (v:Xo)(α:Type)(k:RT α):I4 (Bool->Op α):=fun a b c d e=>v α a b c d e (fun g h i j=>abL k a g c h i b j d)
def aqx:ag:=(ag.put (.m [⟨CA,K9 vY⟩]) [1,1] (emb aco))
theorem atm:ak Pg 105 33 ⟨VU,Ti ea⟩:=iZ ek2 (ah Tryz.func105 (by kernel_rfl)) avU aqx ((an _ _).trans (aA _)) (aM (by kernel_rfl) (aD aco) ⟨acO,trivial⟩) fun _ _=>by kernel_rfl
def aHp:TG:=[tT 0 [0,1],tT 1 [0,1],tT 2 [0,1,12],tT 3 [1,5],tT 4 [1,5],tT 5 [1,5,6,7],tT 6 [1,5,6,7,24],tT 7 [1,5,6,7],tT 8 [1,5,6,7],tT 9 [1,5,6,7,29],tT 10 [1,6,9],tT 11 [1,6,8],tT 12 [1,6,10],tT 13 [1,6,8],tT 14 [1,6,8,11],tT 15 [1,6,8,11,59],tT 17 [1,6,8,11,62],tT 18 [1,6,8,11],tT 19 [1,6,8,11],tT 16 [1,6,8,11],tT 20 [4]]
def aAU:TG:=[tT 6 [1,5,6,7],tT 15 [1,6,8,11]]
def y9:aq:=aw Pg Tryz.f287 aHp aAU
def nC:OT:=tdC (ag.sub [1,1,1,1,0,0] (emb y9))
def pb:OT:=tdC (ag.sub [1,1,1,1,1,1,1,0,1,0] (emb y9))
def Ch:PT St:=pS [sI 0,sl 1 (aV false [(cD dB)])] []
def aBF {β:Type}(g:St->β):Int->Bool->β:=Ch.unc g
def agc:PT St:=pS [sl 1 (aV false [(cD dB)]),sI 5] []
def aiP {β:Type}(g:St->β):Bool->Int->β:=agc.unc g
def px:PT St:=pS [sl 1 (aV false [(cD dB)]),sI 5,sI 6,sI 7] []
def A8 {β:Type}(g:St->β):Bool->Int->Int->Int->β:=px.unc g
def afU:PT St:=pS [sl 1 (aV false [(cD dB)]),sI 5,sI 6,sI 7,sl 24 (aV false [(cD dB)])] []
def vq {β:Type}(g:St->β):Bool->Int->Int->Int->Bool->β:=afU.unc g
def alV:PT St:=pS [sl 1 (aV false [(cD dB)]),sI 6,sI 8] []
def ai0 {β:Type}(g:St->β):Bool->Int->Int->β:=alV.unc g
def Dk:PT St:=pS [sl 1 (aV false [(cD dB)]),sI 6,sI 8,sI 11] []
def De {β:Type}(g:St->β):Bool->Int->Int->Int->β:=Dk.unc g
def ahi:PT St:=pS [sl 1 (aV false [(cD dB)]),sI 6,sI 8,sI 11,sl 59 (aV false [(cD dB)])] []
def vL {β:Type}(g:St->β):Bool->Int->Int->Int->Bool->β:=ahi.unc g
noncomputable abbrev Lk3:List bA:=⟨69,10,[⟨br,adD cq⟩]⟩::⟨271,43,[⟨br,Zk ym⟩]⟩::⟨250,14,[⟨aU,Xe oA⟩]⟩::⟨272,5,[⟨aU,UX pE⟩]⟩::⟨124,19,[⟨fS,TF yG⟩]⟩::⟨100,5,[⟨aU,Rc si⟩]⟩::⟨121,5,[⟨aU,QW Ky⟩]⟩::⟨123,19,[⟨fS,Zj xA⟩]⟩::⟨68,26,[⟨fS,ajm Mx⟩]⟩::⟨151,15,[⟨ba,Wc xP⟩]⟩::⟨168,10,[⟨br,Ts cC⟩]⟩::⟨198,25,[⟨aU,Xn eF⟩]⟩::⟨260,6,[⟨AL,QV Cw⟩]⟩::⟨197,10,[⟨br,V5 j0⟩]⟩::⟨84,15,[⟨akL,ajl Xu⟩]⟩::⟨116,5,[⟨aU,Vd Di⟩]⟩::⟨117,5,[⟨aU,Th DU⟩]⟩::⟨148,11,[⟨kU,VB D9⟩]⟩::⟨149,19,[⟨fS,Zo yF⟩]⟩::⟨77,5,[⟨aU,ag6 rg⟩]⟩::⟨78,5,[⟨aU,akp zk⟩]⟩::⟨79,5,[⟨aU,akT CH⟩]⟩::⟨76,19,[⟨fS,af3 K7⟩]⟩::⟨244,15,[⟨cT,R7 mY⟩]⟩::⟨281,26,[⟨br,ZJ jS⟩]⟩::⟨99,5,[⟨aU,alN Nr⟩]⟩::⟨253,32,[⟨zZ,TZ xU⟩]⟩::⟨221,17,[⟨br,Zy mt⟩]⟩::⟨251,21,[⟨YN,TK rM⟩]⟩::⟨217,17,[⟨dS,XY JC⟩]⟩::⟨227,17,[⟨dS,Yy JS⟩]⟩::⟨105,33,[⟨VU,Ti ea⟩]⟩::⟨136,25,[⟨Tf,Sr oF⟩]⟩::⟨119,36,[⟨q8,Rt jt⟩]⟩::⟨7,68,[⟨eM,awd alr⟩]⟩::⟨10,17,[⟨eM,ads FJ⟩]⟩::Lk2
theorem ak3:bG Lk3 fun c=>bG c.l (ak Pg c.f c.nt):=⟨⟨axd,trivial⟩,⟨anH,trivial⟩,⟨arv,trivial⟩,⟨at9,trivial⟩,⟨au4,trivial⟩,⟨atT,trivial⟩,⟨anh,trivial⟩,⟨auE,trivial⟩,⟨ayp,trivial⟩,⟨aoa,trivial⟩,⟨aph,trivial⟩,⟨aoc,trivial⟩,⟨apc,trivial⟩,⟨atW,trivial⟩,⟨axC,trivial⟩,⟨are,trivial⟩,⟨aqf,trivial⟩,⟨aq0,trivial⟩,⟨atR,trivial⟩,⟨awA,trivial⟩,⟨awE,trivial⟩,⟨ayK,trivial⟩,⟨azB,trivial⟩,⟨ao4,trivial⟩,⟨ank,trivial⟩,⟨azW,trivial⟩,⟨apl,trivial⟩,⟨apq,trivial⟩,⟨aoA,trivial⟩,⟨atz,trivial⟩,⟨aue,trivial⟩,⟨atm,trivial⟩,⟨ang,trivial⟩,⟨ap2,trivial⟩,⟨aIg,trivial⟩,⟨axD,trivial⟩,ak2⟩
def Ek3:aE:=aE.ofIO Lk3 bt io0
theorem ek3:Ek3.Ok Pg:=aE.ofIO_ok aN ak3
def qx:ag:=ag.sub [1,1,1,1,1,1,1,0,1,0,0] (emb y9)
def ji (α:Type)(d:Bool)(c a b:Int)(kn:Int->Int->Op α)(k1:Int->Int->Bool->Op α):Op α:=
 cK (decide (b < c))
 (cK d
 (cq α (w64 (a*a)) 1073741824
 (fun e=>kn e (w64 (b+1))))
 (dz α (w64 (a*a)) 1073741824
 (fun g=>kn g (w64 (b+1)))))
 (k1 a b (decide (b < c)))
def gy (α:Type)(a:Bool)(b:Int)(k1:Int->Int->Bool->Op α):Nat->Int->Int->Op α
 | 0,_,_=>none
 | n+1,c,d=>ji α a b c d (gy α a b k1 n) k1
def xO (α:Type)(a:Bool)(b:Int)(k1:Int->Int->Bool->Op α)(c d:Int):Op α:=gy α a b k1 aF c d
abbrev FT:Type 1:=(α:Type)->Bool->Int->(Int->Int->Bool->Op α)->Int->Int->Op α
def eY:FT:=sld xO
def LZ (v:FT)(α:Type)(K:KT α):Bool->Int->Int->Int->Op α:=fun a b c d=>v α a b (fun e g h=>vL (K (.exit 2)) a b e g h) c d
theorem acn (α:Type)(K:KT α)(Kn:SK α)(a:Bool)(b c d:Int):De (fun σ=>az Pg Ek3 aO qx (bK (fun σ=>bq pb σ Kn) K) σ) a b c d=ji α a b c d (fun c d=>De Kn a b c d) (fun e g h=>vL (K (.exit 2)) a b e g h):=by kernel_rfl
theorem ain (α:Type)(K:KT α):∀ (n:Nat) (a:Bool) (b c d:Int),gy α a b (fun e g h=>vL (K (.exit 2)) a b e g h) n c d=De (aJ (az Pg Ek3 aO qx) pb K n) a b c d:=by
 intro n
 induction n with
 | zero=>intros;rfl
 | succ n ih=>intro a b c d;exact (congrArg (fun kn=>ji α a b c d kn (fun e g h=>vL (K (.exit 2)) a b e g h)) (funext fun c=>funext fun d=>ih a b c d)).trans (acn α K (aJ (az Pg Ek3 aO qx) pb K n) a b c d).symm
theorem aiZ:∀ (α:Type) (K:KT α),LZ eY α K=Dk.unc fun σ=>aJ (az Pg Ek3 aO qx) pb K aF σ:=aZ (fun α K=>funext fun a=>funext fun b=>funext fun c=>funext fun d=>ain α K aF a b c d)
def Z5:ag:=ag.sub [1,1,1,1,1,1,0] (emb y9)
abbrev Fp:Type 1:=(α:Type)->Bool->Int->Int->(Int->Op α)->Op α
def xi (α:Type)(e:Bool)(c d:Int)(k1:Int->Op α):Op α:=
 cK e
 (dz α c d
 (fun b=>cq α (w64 (b*b)) 2147483648
 (fun g=>k1 (w64 ((w64 (1073741824 - b))+g)))))
 (cq α c d
 (fun a=>dz α (w64 (a*a)) 2147483648
 (fun h=>cq α (w64 ((w64 (a*a))*a)) 6917529027641081856
 (fun i=>k1 (w64 ((w64 ((w64 (1073741824 - a))+h)) - i))))))
def fi:Fp:=sld xi
def OC (v:Fp)(α:Type)(K:KT α):Bool->Int->Int->Int->Op α:=fun a b c d=>v α a b d (fun e=>ai0 (K .normal) a c e)
theorem aeJ:∀ (α:Type) (K:KT α),OC fi α K=px.unc fun σ=>az Pg Ek3 aO Z5 K σ:=aZ (fun α K=>by kernel_rfl)
def qI:ag:=ag.sub [1,1,1,1,0,0,0] (emb y9)
def nW (α:Type)(b c a:Int)(kn:Int->Int->Op α)(k1:Int->Int->Bool->Op α):Op α:=
 cK (decide ((w64 (1048576*a)) < b))
 (kn (w64 (c+1)) (w64 (2*a)))
 (k1 c a (decide ((w64 (1048576*a)) < b)))
def md (α:Type)(a:Int)(k1:Int->Int->Bool->Op α):Nat->Int->Int->Op α
 | 0,_,_=>none
 | n+1,b,c=>nW α a b c (md α a k1 n) k1
def xv (α:Type)(a:Int)(k1:Int->Int->Bool->Op α)(b c:Int):Op α:=md α a k1 aF b c
def oG:gw:=sld xv
def Lz (v:gw)(α:Type)(K:KT α):Bool->Int->Int->Int->Op α:=fun b a c d=>v α a (fun e g h=>vq (K (.exit 0)) b a e g h) c d
theorem adT (α:Type)(K:KT α)(Kn:SK α)(d:Bool)(a b c:Int):A8 (fun σ=>az Pg Ek3 aO qI (bK (fun σ=>bq nC σ Kn) K) σ) d a b c=nW α a b c (fun b c=>A8 Kn d a b c) (fun e g h=>vq (K (.exit 0)) d a e g h):=by kernel_rfl
theorem ait (α:Type)(K:KT α):∀ (n:Nat) (d:Bool) (a b c:Int),md α a (fun e g h=>vq (K (.exit 0)) d a e g h) n b c=A8 (aJ (az Pg Ek3 aO qI) nC K n) d a b c:=by
 intro n
 induction n with
 | zero=>intros;rfl
 | succ n ih=>intro d a b c;exact (congrArg (fun kn=>nW α a b c kn (fun e g h=>vq (K (.exit 0)) d a e g h)) (funext fun b=>funext fun c=>ih d a b c)).trans (adT α K (aJ (az Pg Ek3 aO qI) nC K n) d a b c).symm
theorem ai8:∀ (α:Type) (K:KT α),Lz oG α K=px.unc fun σ=>aJ (az Pg Ek3 aO qI) nC K aF σ:=aZ (fun α K=>funext fun a=>funext fun b=>funext fun c=>funext fun d=>ait α K aF a b c d)
def ahf:ag:=ag.sub [1,1,0] (emb y9)
abbrev pZ:Type 1:=(α:Type)->Int->Bool->(Int->Op α)->Op α
def GD (α:Type)(a:Int)(b:Bool)(k1:Int->Op α):Op α:=
 cK b
 (dz α (w64 ((w64 (256*a))*62831853)) 10000000
 (fun c=>k1 c))
 (cq α (w64 ((w64 (256*a))*62831854)) 10000000
 (fun d=>k1 d))
def nL:pZ:=sld GD
def Oz (v:pZ)(α:Type)(K:KT α):Int->Bool->Op α:=fun b a=>v α b a (fun c=>aiP (K .normal) a c)
theorem alh:∀ (α:Type) (K:KT α),Oz nL α K=Ch.unc fun σ=>az Pg Ek3 aO ahf K σ:=aZ (fun α K=>by kernel_rfl)
def H4 (α:Type)(c:Int)(a:Bool)(k1:Int->Op α):Op α:=
 nL α c a
 (fun b=>oG α b
 (fun d e i=>fi α a b e
 (fun g=>eY α a d
 (fun h j l=>k1 h) g 0)) 0 1)
def mA:pZ:=sld H4
def Rg:PT (List DV):=pA [vI,pV false [dB]]
def Rb (v:pZ)(α:Type)(k:RT α):Int->Bool->Op α:=fun a b=>v α a b (fun c=>aR k c)
def anb:ag:=(ag.put (.m [⟨Ch,Oz nL⟩]) [1,1] (ag.put (.m [⟨px,Lz oG⟩]) [1,1,1,1,0,0] (ag.put (.m [⟨px,OC fi⟩]) [1,1,1,1,1,1] (ag.put (.m [⟨Dk,LZ eY⟩]) [1,1,1,1,1,1,1,0,1,0] (emb y9)))))
theorem auG:ak Pg 287 72 ⟨Rg,Rb mA⟩:=iZ ek3 (ah Tryz.func287 (by kernel_rfl)) aO anb ((an _ _).trans ((an _ _).trans ((an _ _).trans ((an _ _).trans (aA _))))) (aM (by kernel_rfl) (aY (td:=nC) (by kernel_rfl) (aM (by kernel_rfl) (aY (td:=pb) (by kernel_rfl) (aD y9) ⟨aiZ,trivial⟩) ⟨aeJ,trivial⟩) ⟨ai8,trivial⟩) ⟨alh,trivial⟩) fun _ _=>by kernel_rfl
end
end Go.AM.K
