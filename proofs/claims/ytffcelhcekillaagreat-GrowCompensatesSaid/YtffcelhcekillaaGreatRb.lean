/- Printed by KGen. -/
import Derived.Test.YtffcelhcekillaaGreatRa
namespace Go.AM.K
open Go.Proofs
set_option maxRecDepth 100000
set_option linter.unusedVariables false
noncomputable section
def gw:SG:=[(24,iT),(27,iT),(36,iT),(39,iT),(47,iT),(49,iT),(58,iS 2),(67,iT),(69,iT),(72,iT),(74,iT),(96,iS 2),(101,iS 2),(103,iS 2),(104,iS 2)]
def aCH:TG:=[tT 0 [0,2],tT 1 [0,2],tT 2 [0,2,19],tT 3 [2,3],tT 4 [2],tT 5 [0,2,31],tT 6 [2,4],tT 7 [2],tT 8 [0,2,42],tT 9 [2,5],tT 10 [2],tT 11 [0,2,6],tT 12 [0,2,6,7,8],tT 13 [0,2,7,8,9,10],tT 14 [0,2,7,8,9,10,57],tT 15 [2],tT 16 [0,2,7,8,9,10,61],tT 17 [0,2,7,8,9,10,11],tT 18 [0,2,7,8,9,10,11,12,13],tT 19 [0,2,7,8,9,10,11,12,13,14],tT 20 [0,2,7,8,9,10,11,15],tT 21 [0,2,7,8,9,10,11,15,95],tT 22 [2],tT 23 [0,2,7,8,9,10,11,15,99],tT 24 [0,2,7,8,9,10],tT 25 [0,2,7,8,9,10],tT 26 [2]]
def aBN:TG:=[tT 16 [0,2,7,8,9,10]]
def rA:aq:=aw Pg Tryz.f286 aCH aBN
def cd:OT:=tdC (ah.sub [1,1,1,1,1,1,1,1,1,0,0] (emb rA))
def gP:PT St:=pS [sI 0,sP 2,sI 7,sI 8,sP 9,sP 10] [au 2 [xI,xI],au 9 [xI,xI],au 10 [xI,xI]]
def eJ {β:Type}(g:St->β):I9 β:=gP.unc g
def ain:PT St:=pS [sP 2] [au 2 [xI,xI]]
def eo {β:Type}(g:St->β):Int->Int->β:=ain.unc g
def afL:PT St:=pS [sI 0,sP 2,sI 7,sI 8,sP 9,sP 10,sl 61 (aV false [(cD dB)])] [au 2 [xI,xI],au 9 [xI,xI],au 10 [xI,xI]]
def ep {β:Type}(g:St->β):Int->Int->Int->Bool->I6 β:=afL.unc g
def cA:ah:=ah.sub [1,1,1,1,1,1,1,1,1,0,0,0] (emb rA)
def D2 (α:Type)(i h a c d e g:Int)(kn:I6 (Op α))(k1:Int->Int->Op α)(k2:Int->Int->Bool->I4 (Op α)):Op α:=
 cK (i != a)
 (dj α (w64 ((w64 ((w64 (c+e))*(w64 (c+e))))+(w64 ((w64 (d+g))*(w64 (d+g))))))
 (fun b=>gK (b != 0) (gK (b != 0) (cK ((w64 (Int.tdiv (w64 (h+a)) 2)) == i)
 (k1 (w64 (Int.tdiv (w64 ((w64 (c+e))*67108864)) b)) (w64 (Int.tdiv (w64 ((w64 (d+g))*67108864)) b)))
 (cK (decide ((w64 (Int.tdiv (w64 (h+a)) 2)) < i))
 (kn (w64 (Int.tdiv (w64 (h+a)) 2)) a (w64 (Int.tdiv (w64 ((w64 (c+e))*67108864)) b)) (w64 (Int.tdiv (w64 ((w64 (d+g))*67108864)) b)) e g)
 (kn h (w64 (Int.tdiv (w64 (h+a)) 2)) c d (w64 (Int.tdiv (w64 ((w64 (c+e))*67108864)) b)) (w64 (Int.tdiv (w64 ((w64 (d+g))*67108864)) b))))))))
 (k2 h a (i != a) c d e g)
def l7 (α:Type)(a:Int)(k1:Int->Int->Op α)(k2:Int->Int->Bool->I4 (Op α)):Nat->I6 (Op α)
 | 0,_,_,_,_,_,_=>none
 | n+1,b,c,d,e,g,h=>D2 α a b c d e g h (l7 α a k1 k2 n) k1 k2
def FM (α:Type)(a:Int)(k1:Int->Int->Op α)(k2:Int->Int->Bool->I4 (Op α))(b c d e g h:Int):Op α:=l7 α a k1 k2 aE b c d e g h
abbrev lN:Type 1:=(α:Type)->Int->(Int->Int->Op α)->(Int->Int->Bool->I4 (Op α))->I6 (Op α)
def tC:lN:=sld FM
def iu (v:lN)(α:Type)(K:KT α):I9 (Op α):=fun c d e g h i j l m=>v α c (fun a b=>eo (K .ret) a b) (fun a b o p q r s=>ep (K (.exit 0)) c a b o g h p q r s) d e i j l m
theorem ajq (α:Type)(K:KT α)(Kn:SK α)(a b c i j d e g h:Int):eJ (fun σ=>az Pg Ek1 gw cA (bI (fun σ=>br cd σ Kn) K) σ) a b c i j d e g h=D2 α a b c d e g h (fun b c d e g h=>eJ Kn a b c i j d e g h) (fun l m=>eo (K .ret) l m) (fun l m o p q r s=>ep (K (.exit 0)) a l m o i j p q r s):=by kernel_rfl
theorem ad4 (α:Type)(K:KT α):∀ (n:Nat) (a b c l m d e g h:Int),l7 α a (fun i j=>eo (K .ret) i j) (fun i j o p q r s=>ep (K (.exit 0)) a i j o l m p q r s) n b c d e g h=eJ (aJ (az Pg Ek1 gw cA) cd K n) a b c l m d e g h:=by
 intro n
 induction n with
 | zero=>intros;rfl
 | succ n ih=>intro a b c l m d e g h;exact (congrArg (fun kn=>D2 α a b c d e g h kn (fun i j=>eo (K .ret) i j) (fun i j o p q r s=>ep (K (.exit 0)) a i j o l m p q r s)) (funext fun b=>funext fun c=>funext fun d=>funext fun e=>funext fun g=>funext fun h=>ih a b c l m d e g h)).trans (ajq α K (aJ (az Pg Ek1 gw cA) cd K n) a b c l m d e g h).symm
theorem ae3:∀ (α:Type) (K:KT α),iu tC α K=gP.unc fun σ=>aJ (az Pg Ek1 gw cA) cd K aE σ:=aZ (fun α K=>funext fun a=>funext fun b=>funext fun c=>funext fun d=>funext fun e=>funext fun g=>funext fun h=>funext fun i=>funext fun j=>ad4 α K aE a b c d e g h i j)
abbrev dN:Type 1:=(α:Type)->Int->(Int->Int->Op α)->Op α
def X6 (α:Type)(c:Int)(k1:Int->Int->Op α):Op α:=
 kQ α c 4194304
 (fun a=>cK (decide (2097152<=a))
 (none)
 (cK (decide (1048576<=a))
 (none)
 (cK (decide (524288 < a))
 (none)
 (dj α 2251799813685248
 (fun b=>cK (a == 0)
 (k1 67108864 0)
 (tC α a
 (fun d e=>k1 d e)
 (fun i j l m o g h=>k1 g h) 0 524288 67108864 0 b b))))))
def sH:dN:=sld X6
def Yl (v:dN)(α:Type)(k:RT α):Int->Op α:=fun a=>v α a (fun b c=>bv k b c)
def aqZ:ah:=(ah.put (.m [⟨gP,iu tC⟩]) [1,1,1,1,1,1,1,1,1,0,0] (emb rA))
theorem amR:ak Pg 286 105 ⟨aU,Yl sH⟩:=iZ ek1 (ag Tryz.func286 (by kernel_rfl)) gw aqZ ((am _ _).trans (aA _)) (aW (td:=cd) (by kernel_rfl) (aD rA) ⟨ae3,trivial⟩) fun _ _=>by kernel_rfl
noncomputable abbrev Lk2:List bC:=⟨286,105,[⟨aU,Yl sH⟩]⟩::⟨102,9,[⟨ba,VF fB⟩]⟩::⟨104,33,[⟨qN,Te pg⟩]⟩::Lk1
theorem ak2:bH Lk2 fun c=>bH c.l (ak Pg c.f c.nt):=⟨⟨amR,trivial⟩,⟨aq2,trivial⟩,⟨ano,trivial⟩,ak1⟩
def Ek2:aF:=aF.ofIO Lk2 bu io0
theorem ek2:Ek2.Ok Pg:=aF.ofIO_ok aN ak2
def CQ (α:Type)(i h a c d e g:Int)(kn:I6 (Op α))(k1:Int->Int->Op α)(k2:Int->Int->Bool->I4 (Op α)):Op α:=
 cK (i != a)
 (dj α (w64 ((w64 ((w64 (c+e))*(w64 (c+e))))+(w64 ((w64 (d+g))*(w64 (d+g))))))
 (fun b=>gK (b != 0) (gK (b != 0) (cK ((w64 (Int.tdiv (w64 (h+a)) 2)) == i)
 (k1 (w64 (Int.tdiv (w64 ((w64 (c+e))*67108864)) b)) (w64 (Int.tdiv (w64 ((w64 (d+g))*67108864)) b)))
 (cK (decide ((w64 (Int.tdiv (w64 (h+a)) 2)) < i))
 (kn (w64 (Int.tdiv (w64 (h+a)) 2)) a (w64 (Int.tdiv (w64 ((w64 (c+e))*67108864)) b)) (w64 (Int.tdiv (w64 ((w64 (d+g))*67108864)) b)) e g)
 (kn h (w64 (Int.tdiv (w64 (h+a)) 2)) c d (w64 (Int.tdiv (w64 ((w64 (c+e))*67108864)) b)) (w64 (Int.tdiv (w64 ((w64 (d+g))*67108864)) b))))))))
 (k2 h a (i != a) c d e g)
def mj (α:Type)(a:Int)(k1:Int->Int->Op α)(k2:Int->Int->Bool->I4 (Op α)):Nat->I6 (Op α)
 | 0,_,_,_,_,_,_=>none
 | n+1,b,c,d,e,g,h=>CQ α a b c d e g h (mj α a k1 k2 n) k1 k2
def F3 (α:Type)(a:Int)(k1:Int->Int->Op α)(k2:Int->Int->Bool->I4 (Op α))(b c d e g h:Int):Op α:=mj α a k1 k2 aE b c d e g h
def wx:lN:=sld F3
theorem acL (α:Type)(K:KT α)(Kn:SK α)(a b c i j d e g h:Int):eJ (fun σ=>az Pg Ek2 gw cA (bI (fun σ=>br cd σ Kn) K) σ) a b c i j d e g h=CQ α a b c d e g h (fun b c d e g h=>eJ Kn a b c i j d e g h) (fun l m=>eo (K .ret) l m) (fun l m o p q r s=>ep (K (.exit 0)) a l m o i j p q r s):=by kernel_rfl
theorem aiY (α:Type)(K:KT α):∀ (n:Nat) (a b c l m d e g h:Int),mj α a (fun i j=>eo (K .ret) i j) (fun i j o p q r s=>ep (K (.exit 0)) a i j o l m p q r s) n b c d e g h=eJ (aJ (az Pg Ek2 gw cA) cd K n) a b c l m d e g h:=by
 intro n
 induction n with
 | zero=>intros;rfl
 | succ n ih=>intro a b c l m d e g h;exact (congrArg (fun kn=>CQ α a b c d e g h kn (fun i j=>eo (K .ret) i j) (fun i j o p q r s=>ep (K (.exit 0)) a i j o l m p q r s)) (funext fun b=>funext fun c=>funext fun d=>funext fun e=>funext fun g=>funext fun h=>ih a b c l m d e g h)).trans (acL α K (aJ (az Pg Ek2 gw cA) cd K n) a b c l m d e g h).symm
theorem ajl:∀ (α:Type) (K:KT α),iu wx α K=gP.unc fun σ=>aJ (az Pg Ek2 gw cA) cd K aE σ:=aZ (fun α K=>funext fun a=>funext fun b=>funext fun c=>funext fun d=>funext fun e=>funext fun g=>funext fun h=>funext fun i=>funext fun j=>aiY α K aE a b c d e g h i j)
def Yi (α:Type)(c:Int)(k1:Int->Int->Op α):Op α:=
 kQ α c 4194304
 (fun a=>cK (decide (2097152<=a))
 (sH α (w64 (a - 2097152))
 (fun d e=>k1 (w64 (0 - d)) (w64 (0 - e))))
 (cK (decide (1048576<=a))
 (sH α (w64 (a - 1048576))
 (fun g h=>k1 (w64 (0 - h)) g))
 (cK (decide (524288 < a))
 (sH α (w64 (1048576 - a))
 (fun i j=>k1 j i))
 (dj α 2251799813685248
 (fun b=>cK (a == 0)
 (k1 67108864 0)
 (wx α a
 (fun l m=>k1 l m)
 (fun q r s t w o p=>k1 o p) 0 524288 67108864 0 b b))))))
def ss:dN:=sld Yi
def VH (v:dN)(α:Type)(k:RT α):Int->Op α:=fun a=>v α a (fun b c=>bv k b c)
def aq0:ah:=(ah.put (.m [⟨gP,iu wx⟩]) [1,1,1,1,1,1,1,1,1,0,0] (emb rA))
theorem anv:ak Pg 286 105 ⟨aU,VH ss⟩:=iZ ek2 (ag Tryz.func286 (by kernel_rfl)) gw aq0 ((am _ _).trans (aA _)) (aW (td:=cd) (by kernel_rfl) (aD rA) ⟨ajl,trivial⟩) fun _ _=>by kernel_rfl
def Ec:aF:=aF.ofIO (⟨286,105,[⟨aU,VH ss⟩]⟩::Lk2) bu io0
theorem ang:Ec.Ok Pg:=aF.ofIO_ok aN ⟨⟨anv,trivial⟩,ak2⟩
def DQ (α:Type)(i h a c d e g:Int)(kn:I6 (Op α))(k1:Int->Int->Op α)(k2:Int->Int->Bool->I4 (Op α)):Op α:=
 cK (i != a)
 (dj α (w64 ((w64 ((w64 (c+e))*(w64 (c+e))))+(w64 ((w64 (d+g))*(w64 (d+g))))))
 (fun b=>gK (b != 0) (gK (b != 0) (cK ((w64 (Int.tdiv (w64 (h+a)) 2)) == i)
 (k1 (w64 (Int.tdiv (w64 ((w64 (c+e))*67108864)) b)) (w64 (Int.tdiv (w64 ((w64 (d+g))*67108864)) b)))
 (cK (decide ((w64 (Int.tdiv (w64 (h+a)) 2)) < i))
 (kn (w64 (Int.tdiv (w64 (h+a)) 2)) a (w64 (Int.tdiv (w64 ((w64 (c+e))*67108864)) b)) (w64 (Int.tdiv (w64 ((w64 (d+g))*67108864)) b)) e g)
 (kn h (w64 (Int.tdiv (w64 (h+a)) 2)) c d (w64 (Int.tdiv (w64 ((w64 (c+e))*67108864)) b)) (w64 (Int.tdiv (w64 ((w64 (d+g))*67108864)) b))))))))
 (k2 h a (i != a) c d e g)
def mt (α:Type)(a:Int)(k1:Int->Int->Op α)(k2:Int->Int->Bool->I4 (Op α)):Nat->I6 (Op α)
 | 0,_,_,_,_,_,_=>none
 | n+1,b,c,d,e,g,h=>DQ α a b c d e g h (mt α a k1 k2 n) k1 k2
def Gt (α:Type)(a:Int)(k1:Int->Int->Op α)(k2:Int->Int->Bool->I4 (Op α))(b c d e g h:Int):Op α:=mt α a k1 k2 aE b c d e g h
def uw:lN:=sld Gt
theorem aeg (α:Type)(K:KT α)(Kn:SK α)(a b c i j d e g h:Int):eJ (fun σ=>az Pg Ec gw cA (bI (fun σ=>br cd σ Kn) K) σ) a b c i j d e g h=DQ α a b c d e g h (fun b c d e g h=>eJ Kn a b c i j d e g h) (fun l m=>eo (K .ret) l m) (fun l m o p q r s=>ep (K (.exit 0)) a l m o i j p q r s):=by kernel_rfl
theorem adZ (α:Type)(K:KT α):∀ (n:Nat) (a b c l m d e g h:Int),mt α a (fun i j=>eo (K .ret) i j) (fun i j o p q r s=>ep (K (.exit 0)) a i j o l m p q r s) n b c d e g h=eJ (aJ (az Pg Ec gw cA) cd K n) a b c l m d e g h:=by
 intro n
 induction n with
 | zero=>intros;rfl
 | succ n ih=>intro a b c l m d e g h;exact (congrArg (fun kn=>DQ α a b c d e g h kn (fun i j=>eo (K .ret) i j) (fun i j o p q r s=>ep (K (.exit 0)) a i j o l m p q r s)) (funext fun b=>funext fun c=>funext fun d=>funext fun e=>funext fun g=>funext fun h=>ih a b c l m d e g h)).trans (aeg α K (aJ (az Pg Ec gw cA) cd K n) a b c l m d e g h).symm
theorem ahA:∀ (α:Type) (K:KT α),iu uw α K=gP.unc fun σ=>aJ (az Pg Ec gw cA) cd K aE σ:=aZ (fun α K=>funext fun a=>funext fun b=>funext fun c=>funext fun d=>funext fun e=>funext fun g=>funext fun h=>funext fun i=>funext fun j=>adZ α K aE a b c d e g h i j)
def QR (α:Type)(c:Int)(k1:Int->Int->Op α):Op α:=
 kQ α c 4194304
 (fun a=>cK (decide (2097152<=a))
 (ss α (w64 (a - 2097152))
 (fun d e=>k1 (w64 (0 - d)) (w64 (0 - e))))
 (cK (decide (1048576<=a))
 (ss α (w64 (a - 1048576))
 (fun g h=>k1 (w64 (0 - h)) g))
 (cK (decide (524288 < a))
 (ss α (w64 (1048576 - a))
 (fun i j=>k1 j i))
 (dj α 2251799813685248
 (fun b=>cK (a == 0)
 (k1 67108864 0)
 (uw α a
 (fun l m=>k1 l m)
 (fun q r s t w o p=>k1 o p) 0 524288 67108864 0 b b))))))
def sJ:dN:=sld QR
def WO (v:dN)(α:Type)(k:RT α):Int->Op α:=fun a=>v α a (fun b c=>bv k b c)
def auF:ah:=(ah.put (.m [⟨gP,iu uw⟩]) [1,1,1,1,1,1,1,1,1,0,0] (emb rA))
theorem aqP:ak Pg 286 105 ⟨aU,WO sJ⟩:=iZ ang (ag Tryz.func286 (by kernel_rfl)) gw auF ((am _ _).trans (aA _)) (aW (td:=cd) (by kernel_rfl) (aD rA) ⟨ahA,trivial⟩) fun _ _=>by kernel_rfl
def CH:aF:=aF.ofIO (⟨286,105,[⟨aU,WO sJ⟩]⟩::Lk2) bu io0
theorem anu:CH.Ok Pg:=aF.ofIO_ok aN ⟨⟨aqP,trivial⟩,ak2⟩
def n9 (α:Type)(i h a c d e g:Int)(kn:I6 (Op α))(k1:Int->Int->Op α)(k2:Int->Int->Bool->I4 (Op α)):Op α:=
 cK (i != a)
 (dj α (w64 ((w64 ((w64 (c+e))*(w64 (c+e))))+(w64 ((w64 (d+g))*(w64 (d+g))))))
 (fun b=>gK (b != 0) (gK (b != 0) (cK ((w64 (Int.tdiv (w64 (h+a)) 2)) == i)
 (k1 (w64 (Int.tdiv (w64 ((w64 (c+e))*67108864)) b)) (w64 (Int.tdiv (w64 ((w64 (d+g))*67108864)) b)))
 (cK (decide ((w64 (Int.tdiv (w64 (h+a)) 2)) < i))
 (kn (w64 (Int.tdiv (w64 (h+a)) 2)) a (w64 (Int.tdiv (w64 ((w64 (c+e))*67108864)) b)) (w64 (Int.tdiv (w64 ((w64 (d+g))*67108864)) b)) e g)
 (kn h (w64 (Int.tdiv (w64 (h+a)) 2)) c d (w64 (Int.tdiv (w64 ((w64 (c+e))*67108864)) b)) (w64 (Int.tdiv (w64 ((w64 (d+g))*67108864)) b))))))))
 (k2 h a (i != a) c d e g)
def cT (α:Type)(a:Int)(k1:Int->Int->Op α)(k2:Int->Int->Bool->I4 (Op α)):Nat->I6 (Op α)
 | 0,_,_,_,_,_,_=>none
 | n+1,b,c,d,e,g,h=>n9 α a b c d e g h (cT α a k1 k2 n) k1 k2
def HG (α:Type)(a:Int)(k1:Int->Int->Op α)(k2:Int->Int->Bool->I4 (Op α))(b c d e g h:Int):Op α:=cT α a k1 k2 aE b c d e g h
def uv:lN:=sld HG
theorem afS (α:Type)(K:KT α)(Kn:SK α)(a b c i j d e g h:Int):eJ (fun σ=>az Pg CH gw cA (bI (fun σ=>br cd σ Kn) K) σ) a b c i j d e g h=n9 α a b c d e g h (fun b c d e g h=>eJ Kn a b c i j d e g h) (fun l m=>eo (K .ret) l m) (fun l m o p q r s=>ep (K (.exit 0)) a l m o i j p q r s):=by kernel_rfl
theorem agI (α:Type)(K:KT α):∀ (n:Nat) (a b c l m d e g h:Int),cT α a (fun i j=>eo (K .ret) i j) (fun i j o p q r s=>ep (K (.exit 0)) a i j o l m p q r s) n b c d e g h=eJ (aJ (az Pg CH gw cA) cd K n) a b c l m d e g h:=by
 intro n
 induction n with
 | zero=>intros;rfl
 | succ n ih=>intro a b c l m d e g h;exact (congrArg (fun kn=>n9 α a b c d e g h kn (fun i j=>eo (K .ret) i j) (fun i j o p q r s=>ep (K (.exit 0)) a i j o l m p q r s)) (funext fun b=>funext fun c=>funext fun d=>funext fun e=>funext fun g=>funext fun h=>ih a b c l m d e g h)).trans (afS α K (aJ (az Pg CH gw cA) cd K n) a b c l m d e g h).symm
theorem afw:∀ (α:Type) (K:KT α),iu uv α K=gP.unc fun σ=>aJ (az Pg CH gw cA) cd K aE σ:=aZ (fun α K=>funext fun a=>funext fun b=>funext fun c=>funext fun d=>funext fun e=>funext fun g=>funext fun h=>funext fun i=>funext fun j=>agI α K aE a b c d e g h i j)
def Wb (α:Type)(c:Int)(k1:Int->Int->Op α):Op α:=
 kQ α c 4194304
 (fun a=>cK (decide (2097152<=a))
 (sJ α (w64 (a - 2097152))
 (fun d e=>k1 (w64 (0 - d)) (w64 (0 - e))))
 (cK (decide (1048576<=a))
 (sJ α (w64 (a - 1048576))
 (fun g h=>k1 (w64 (0 - h)) g))
 (cK (decide (524288 < a))
 (sJ α (w64 (1048576 - a))
 (fun i j=>k1 j i))
 (dj α 2251799813685248
 (fun b=>cK (a == 0)
 (k1 67108864 0)
 (uv α a
 (fun l m=>k1 l m)
 (fun q r s t w o p=>k1 o p) 0 524288 67108864 0 b b))))))
def B7:dN:=sld Wb
def YZ (v:dN)(α:Type)(k:RT α):Int->Op α:=fun a=>v α a (fun b c=>bv k b c)
def amE:ah:=(ah.put (.m [⟨gP,iu uv⟩]) [1,1,1,1,1,1,1,1,1,0,0] (emb rA))
theorem asa:ak Pg 286 105 ⟨aU,YZ B7⟩:=iZ anu (ag Tryz.func286 (by kernel_rfl)) gw amE ((am _ _).trans (aA _)) (aW (td:=cd) (by kernel_rfl) (aD rA) ⟨afw,trivial⟩) fun _ _=>by kernel_rfl
def aGT:TG:=[tT 0 [1],tT 1 [2]]
def aHC:aq:=aw Pg Tryz.f244 aGT aC
def Xr (α:Type)(a b:Int)(k1:Int->Op α):Op α:=
 dj α (w64 ((w64 (a*a))+(w64 (b*b))))
 (fun c=>k1 c)
def mX:bB:=sld Xr
def T2 (v:bB)(α:Type)(k:RT α):Int->Int->Int->Op α:=fun a b d=>v α a b (fun c=>aR k c)
theorem aqD:ak Pg 244 15 ⟨cZ,T2 mX⟩:=iP ek2 aHC (ag Tryz.func244 (by kernel_rfl)) aiZ fun _ _=>by kernel_rfl
def aCy:TG:=[tT 0 [0],tT 1 [0,3],tT 2 [3,10],tT 3 [3],tT 4 [2]]
def aEQ:aq:=aw Pg Tryz.f250 aCy aC
def Le (α:Type)(b:Int)(k1:Int->Op α):Op α:=
 dj α b
 (fun a=>cK (decide ((w64 (a*a)) < b))
 (k1 (w64 (a+1)))
 (k1 a))
def oS:ce:=sld Le
def Yo (v:ce)(α:Type)(k:RT α):Int->Op α:=fun a=>v α a (fun b=>aR k b)
theorem amq:ak Pg 250 14 ⟨aU,Yo oS⟩:=iP ek2 aEQ (ag Tryz.func250 (by kernel_rfl)) aO fun _ _=>by kernel_rfl
def aGR:TG:=[tT 0 [0,1],tT 1 [0,1,6],tT 2 [1,6,7],tT 3 [6,7,20],tT 4 [4,5],tT 5 [4,5]]
def aCR:aq:=aw Pg Tryz.f281 aGR aC
def abx:PT (List RV):=pRs [wI,pR false [rD dB]]
def qv {β:Type}(g:List RV->β):Int->Bool->β:=abx.unc g
abbrev qW:Type 1:=(α:Type)->Int->Int->(Int->Bool->Op α)->Op α
def Ky (α:Type)(c a:Int)(k1:Int->Bool->Op α):Op α:=
 dD α c a
 (fun b=>cK (decide ((w64 (a - (w64 (c - (w64 (b*a))))))<=(w64 (c - (w64 (b*a))))))
 (k1 (w64 (b+1)) true)
 (k1 b ((w64 (c - (w64 (b*a)))) != 0)))
def jn:qW:=sld Ky
def UG (v:qW)(α:Type)(k:RT α):Int->Int->Op α:=fun a b=>v α a b (fun c d=>qv k c d)
theorem amF:ak Pg 281 26 ⟨bt,UG jn⟩:=iP ek2 aCR (ag Tryz.func281 (by kernel_rfl)) aO fun _ _=>by kernel_rfl
def NR:SG:=[(13,iT),(16,iT),(18,iT),(20,iS 3)]
def aAo:TG:=[tT 0 [1,2,4],tT 1 [1,2,4,5],tT 2 [1,2,4,5,9],tT 4 [1,2,4,5],tT 3 [1,2,4,5],tT 5 [4]]
def aCv:TG:=[tT 2 [1,2,4,5]]
def VR:aq:=aw Pg Tryz.f251 aAo aCv
def vd:OT:=tdC (ah.sub [1,0,1,0] (emb VR))
def CP:PT St:=pS [sI 1,sP 2,sP 4,sI 5] [au 2 (xs 3),au 4 (xs 3)]
def DS {β:Type}(g:St->β):I8 β:=CP.unc g
def ah1:PT St:=pS [sI 1,sP 2,sP 4,sI 5,sl 9 (aV false [(cD dB)])] [au 2 (xs 3),au 4 (xs 3)]
def wk {β:Type}(g:St->β):Int->Int->Bool->I6 β:=ah1.unc g
def uN:ah:=ah.sub [1,0,1,0,0] (emb VR)
def oL (α:Type)(e a b c:Int)(kn:Int->Int->Int->Op α)(k1:Int->Bool->Int->Int->Op α):Op α:=
 kQ α e 4
 (fun d=>cK (decide (a < d))
 (kn (w64 (a+1)) (w64 (0 - c)) b)
 (k1 a (decide (a < d)) b c))
def oG (α:Type)(a:Int)(k1:Int->Bool->Int->Int->Op α):Nat->Int->Int->Int->Op α
 | 0,_,_,_=>none
 | n+1,b,c,d=>oL α a b c d (oG α a k1 n) k1
def HU (α:Type)(a:Int)(k1:Int->Bool->Int->Int->Op α)(b c d:Int):Op α:=oG α a k1 aE b c d
def uR:qn:=sld HU
def MS (v:qn)(α:Type)(K:KT α):I8 (Op α):=fun a b c d e g h i=>v α a (fun j l m o=>wk (K (.exit 0)) a j l m o e g h i) b c d
theorem ahq (α:Type)(K:KT α)(Kn:SK α)(a b c d e g h i:Int):DS (fun σ=>az Pg Ek2 NR uN (bI (fun σ=>br vd σ Kn) K) σ) a b c d e g h i=oL α a b c d (fun b c d=>DS Kn a b c d e g h i) (fun j l m o=>wk (K (.exit 0)) a j l m o e g h i):=by kernel_rfl
theorem acQ (α:Type)(K:KT α):∀ (n:Nat) (a b c d e g h i:Int),oG α a (fun j l m o=>wk (K (.exit 0)) a j l m o e g h i) n b c d=DS (aJ (az Pg Ek2 NR uN) vd K n) a b c d e g h i:=by
 intro n
 induction n with
 | zero=>intros;rfl
 | succ n ih=>intro a b c d e g h i;exact (congrArg (fun kn=>oL α a b c d kn (fun j l m o=>wk (K (.exit 0)) a j l m o e g h i)) (funext fun b=>funext fun c=>funext fun d=>ih a b c d e g h i)).trans (ahq α K (aJ (az Pg Ek2 NR uN) vd K n) a b c d e g h i).symm
theorem agq:∀ (α:Type) (K:KT α),MS uR α K=CP.unc fun σ=>aJ (az Pg Ek2 NR uN) vd K aE σ:=aZ (fun α K=>funext fun a=>funext fun b=>funext fun c=>funext fun d=>funext fun e=>funext fun g=>funext fun h=>funext fun i=>acQ α K aE a b c d e g h i)
def QL (α:Type)(a b c:Int)(k1:Int->Int->Op α):Op α:=
 uR α c
 (fun g h d e=>k1 d e) 0 a b
def sr:fU:=sld QL
def Tf:PT (List DV):=pA [pV true [(dI .i64),(dI .i64),(dI .i64)],vI]
def Qy (v:fU)(α:Type)(k:RT α):I4 (Op α):=fun a b c d=>v α a b d (fun e g=>xP k e g c)
def aqr:ah:=(ah.put (.m [⟨CP,MS uR⟩]) [1,0,1,0] (emb VR))
theorem aos:ak Pg 251 21 ⟨Tf,Qy sr⟩:=iZ ek2 (ag Tryz.func251 (by kernel_rfl)) NR aqr ((am _ _).trans (aA _)) (aW (td:=vd) (by kernel_rfl) (aD VR) ⟨agq,trivial⟩) fun _ _=>by kernel_rfl
def aCV:TG:=[tT 0 [0,1],tT 1 [0,1,6],tT 2 [1,6,7],tT 3 [1,6,7,22],tT 4 [4,5],tT 5 [1,6,7,8],tT 6 [1,6,7,8,26],tT 8 [1,6,7,8],tT 9 [1,6,7,8,35],tT 10 [1,6,7,8],tT 7 [1,6,7,8],tT 11 [4,5]]
def aCw:TG:=[tT 6 [1,6,7,8]]
def Xo:aq:=aw Pg Tryz.f271 aCV aCw
def py:OT:=tdC (ah.sub [1,1,1,1,0,1,0] (emb Xo))
def B9:PT St:=pS [sI 1,sI 6,sI 7,sI 8] []
def CN {β:Type}(g:St->β):I4 β:=B9.unc g
def ahU:PT St:=pS [sI 1,sI 6,sI 7,sI 8,sl 26 (aV false [(cD dB)])] []
def vc {β:Type}(g:St->β):Int->Int->Int->Int->Bool->β:=ahU.unc g
def aaU:PT (List RV):=pRs [wI,wI]
def fw {β:Type}(g:List RV->β):Int->Int->β:=aaU.unc g
def qP:ah:=ah.sub [1,1,1,1,0,1,0,0] (emb Xo)
def o4 (α:Type)(d c b a:Int)(kn:Int->Int->Int->Op α)(k1:Int->Int->Int->Bool->Op α):Op α:=
 cK (decide (a < 20))
 (cK (decide (d<=(w64 (2*b))))
 (kn (w64 ((w64 (2*c))+1)) (w64 ((w64 (2*b)) - d)) (w64 (a+1)))
 (kn (w64 (2*c)) (w64 (2*b)) (w64 (a+1))))
 (k1 c b a (decide (a < 20)))
def lI (α:Type)(a:Int)(k1:Int->Int->Int->Bool->Op α):Nat->Int->Int->Int->Op α
 | 0,_,_,_=>none
 | n+1,b,c,d=>o4 α a b c d (lI α a k1 n) k1
def FB (α:Type)(a:Int)(k1:Int->Int->Int->Bool->Op α)(b c d:Int):Op α:=lI α a k1 aE b c d
abbrev Fp:Type 1:=(α:Type)->Int->(Int->Int->Int->Bool->Op α)->Int->Int->Int->Op α
def wo:Fp:=sld FB
def Oq (v:Fp)(α:Type)(K:KT α):I4 (Op α):=fun a b c d=>v α a (fun e g h i=>vc (K (.exit 0)) a e g h i) b c d
theorem adj (α:Type)(K:KT α)(Kn:SK α)(a b c d:Int):CN (fun σ=>az Pg Ek2 aO qP (bI (fun σ=>br py σ Kn) K) σ) a b c d=o4 α a b c d (fun b c d=>CN Kn a b c d) (fun e g h i=>vc (K (.exit 0)) a e g h i):=by kernel_rfl
theorem ahJ (α:Type)(K:KT α):∀ (n:Nat) (a b c d:Int),lI α a (fun e g h i=>vc (K (.exit 0)) a e g h i) n b c d=CN (aJ (az Pg Ek2 aO qP) py K n) a b c d:=by
 intro n
 induction n with
 | zero=>intros;rfl
 | succ n ih=>intro a b c d;exact (congrArg (fun kn=>o4 α a b c d kn (fun e g h i=>vc (K (.exit 0)) a e g h i)) (funext fun b=>funext fun c=>funext fun d=>ih a b c d)).trans (adj α K (aJ (az Pg Ek2 aO qP) py K n) a b c d).symm
theorem ajt:∀ (α:Type) (K:KT α),Oq wo α K=B9.unc fun σ=>aJ (az Pg Ek2 aO qP) py K aE σ:=aZ (fun α K=>funext fun a=>funext fun b=>funext fun c=>funext fun d=>ahJ α K aE a b c d)
def TM (α:Type)(c b:Int)(k1:Int->Int->Op α):Op α:=
 dD α c b
 (fun a=>cK (decide (268435456 < a))
 (k1 a (w64 (c - (w64 (a*b)))))
 (cK (decide (a < (-268435456)))
 (k1 a (w64 (c - (w64 (a*b)))))
 (wo α b
 (fun d e g h=>k1 d e) a (w64 (c - (w64 (a*b)))) 0)))
def yP:ee:=sld TM
def Sc (v:ee)(α:Type)(k:RT α):Int->Int->Op α:=fun a b=>v α a b (fun c d=>fw k c d)
def ars:ah:=(ah.put (.m [⟨B9,Oq wo⟩]) [1,1,1,1,0,1,0] (emb Xo))
theorem ann:ak Pg 271 43 ⟨bt,Sc yP⟩:=iZ ek2 (ag Tryz.func271 (by kernel_rfl)) aO ars ((am _ _).trans (aA _)) (aW (td:=py) (by kernel_rfl) (aD Xo) ⟨ajt,trivial⟩) fun _ _=>by kernel_rfl
def aHb:TG:=[tT 0 [0],tT 1 [2]]
def aFR:aq:=aw Pg Tryz.f272 aHb aC
def P2 (α:Type)(a:Int)(k1:Bool->Op α):Op α:=
 cF α a (-67108864) 67108864
 (fun b=>k1 b)
def oV:cW:=sld P2
def VL (v:cW)(α:Type)(k:RT α):Int->Op α:=fun a=>v α a (fun b=>bi k b)
theorem as9:ak Pg 272 5 ⟨aU,VL oV⟩:=iP ek2 aFR (ag Tryz.func272 (by kernel_rfl)) aO fun _ _=>by kernel_rfl
def aIN:TG:=[tT 0 [0],tT 1 [2]]
def aKZ:aq:=aw Pg Tryz.f99 aIN aC
def aj6 (α:Type)(a:Int)(k1:Bool->Op α):Op α:=
 cF α a 5000 80000
 (fun b=>k1 b)
def OD:cW:=sld aj6
def akO (v:cW)(α:Type)(k:RT α):Int->Op α:=fun a=>v α a (fun b=>bi k b)
theorem aw7:ak Pg 99 5 ⟨aU,akO OD⟩:=iP ek2 aKZ (ag Tryz.func99 (by kernel_rfl)) aO fun _ _=>by kernel_rfl
def aER:TG:=[tT 0 [0],tT 1 [2]]
def aB4:aq:=aw Pg Tryz.f100 aER aC
def IM (α:Type)(a:Int)(k1:Bool->Op α):Op α:=
 cF α a 0 80000
 (fun b=>k1 b)
def sj:cW:=sld IM
def Xf (v:cW)(α:Type)(k:RT α):Int->Op α:=fun a=>v α a (fun b=>bi k b)
theorem anB:ak Pg 100 5 ⟨aU,Xf sj⟩:=iP ek2 aB4 (ag Tryz.func100 (by kernel_rfl)) aO fun _ _=>by kernel_rfl
def RB:SG:=[(8,iT),(14,iT)]
def aFh:TG:=[tT 0 [1,2,3],tT 1 [6]]
def aFP:aq:=aw Pg Tryz.f124 aFh aC
abbrev f4:Type 1:=(α:Type)->Int->Int->Int->Int->(Bool->Op α)->Op α
def Ue (α:Type)(c d a b:Int)(k1:Bool->Op α):Op α:=
 cF α c a b
 (fun e=>cK e
 (cF α d a b
 (fun g=>k1 g))
 (k1 false))
def yt:f4:=sld Ue
def fZ:PT (List DV):=pA [pV true [(dI .i64),(dI .i64)],vI,vI]
def Qg (v:f4)(α:Type)(k:RT α):I4 (Op α):=fun a b c d=>v α a b c d (fun e=>bi k e)
theorem aoB:ak Pg 124 19 ⟨fZ,Qg yt⟩:=iP ek2 aFP (ag Tryz.func124 (by kernel_rfl)) RB fun _ _=>by kernel_rfl
def aC5:TG:=[tT 0 [1,2,3],tT 1 [6]]
def aGw:aq:=aw Pg Tryz.f123 aC5 aC
def SQ (α:Type)(c d a b:Int)(k1:Bool->Op α):Op α:=
 cF α c a b
 (fun e=>cK e
 (cF α d a b
 (fun g=>k1 g))
 (k1 false))
def xq:f4:=sld SQ
def SW (v:f4)(α:Type)(k:RT α):I4 (Op α):=fun a b c d=>v α a b c d (fun e=>bi k e)
theorem aoa:ak Pg 123 19 ⟨fZ,SW xq⟩:=iP ek2 aGw (ag Tryz.func123 (by kernel_rfl)) RB fun _ _=>by kernel_rfl
def aHB:TG:=[tT 0 [0],tT 1 [2]]
def aH1:aq:=aw Pg Tryz.f121 aHB aC
def Q7 (α:Type)(a:Int)(k1:Bool->Op α):Op α:=
 cF α a 0 2
 (fun b=>k1 b)
def Jc:cW:=sld Q7
def Up (v:cW)(α:Type)(k:RT α):Int->Op α:=fun a=>v α a (fun b=>bi k b)
theorem apb:ak Pg 121 5 ⟨aU,Up Jc⟩:=iP ek2 aH1 (ag Tryz.func121 (by kernel_rfl)) aO fun _ _=>by kernel_rfl
def aJm:SG:=[(8,[.sl]),(12,[.sl]),(15,iS 3),(17,[.sl,.sl,.int .i64,.sl,.int .i64,.int .i64])]
def aKy:TG:=[(0,⟨[1,2,3,6],true,[⟨true,6,0,30600,3⟩,⟨true,6,1,30601,2⟩,⟨true,6,3,30603,9⟩],[]⟩),(1,⟨[1,2,3,6],true,[⟨true,6,0,30600,3⟩,⟨true,6,1,30601,2⟩,⟨true,6,3,30603,9⟩],[]⟩),(2,⟨[3,6],true,[⟨true,6,0,30600,3⟩,⟨true,6,1,30601,2⟩,⟨true,6,3,30603,9⟩],[]⟩),(3,⟨[6],true,[⟨true,6,0,30600,3⟩,⟨true,6,1,30601,2⟩,⟨true,6,3,30603,9⟩],[]⟩)]
def aJi:aq:=aw Pg Tryz.f45 aKy aC
def afN:PT (List RV):=pRs [pR true [rO 3,rD dL,rD (dI .i64),rD dL,rD (dI .i64),rD (dI .i64)]]
def ahd {β:Type}(g:List RV->β):ae->ae->Int->ae->Int->Int->β:=afN.unc g
abbrev afB:Type 1:=(α:Type)->ae->Int->Int->(ae->Op α)->Op α
def ajU (α:Type)(c:ae)(a d:Int)(k1:ae->Op α):Op α:=
 Eu α c
 (fun b=>ixK b a 3
 (stK b (Int.toNat a) 2 1
 (k1 (List.set b (Int.toNat a) (splice (cu b (Int.toNat a)) 2 [DC.v (.int .i64 d)])))))
def Gp:afB:=sld ajU
def als:PT (List DV):=pA [pV true [dL,dL,(dI .i64),dL,(dI .i64),(dI .i64)],vI,vI]
def ajZ (v:afB)(α:Type)(k:RT α):ae->ae->Int->ae->I4 (Op α):=fun a b c d e g h i=>v α a h i (fun j=>ahd k j b c d e g)
theorem azm:ak Pg 45 18 ⟨als,ajZ Gp⟩:=iP ek2 aJi (ag Tryz.func45 (by kernel_rfl)) aJm fun _ _=>by kernel_rfl
def aII:TG:=[tT 0 [0,1],tT 1 [4]]
def aI1:aq:=aw Pg Tryz.f69 aII aC
def aj7 (α:Type)(a b:Int)(k1:Int->Op α):Op α:=
 dD α (w64 (0 - a)) b
 (fun c=>k1 (w64 (0 - c)))
def cn:bB:=sld aj7
def ale (v:bB)(α:Type)(k:RT α):Int->Int->Op α:=fun a b=>v α a b (fun c=>aR k c)
theorem ayN:ak Pg 69 10 ⟨bt,ale cn⟩:=iP ek2 aI1 (ag Tryz.func69 (by kernel_rfl)) aO fun _ _=>by kernel_rfl
def aJG:SG:=[(8,iT),(15,iT),(22,iT),(24,iT)]
def aLj:TG:=[tT 0 [1,2,3],tT 1 [3,20],tT 2 [6],tT 3 [25],tT 4 [6],tT 5 [6]]
def aJb:aq:=aw Pg Tryz.f68 aLj aC
abbrev xM:Type 1:=(α:Type)->Int->Int->Int->Int->(Int->Op α)->Op α
def ajo (α:Type)(a b c d:Int)(k1:Int->Op α):Op α:=
 cF α a c d
 (fun e=>cK (!e)
 (k1 2)
 (cF α b c d
 (fun g=>cK (!g)
 (k1 2)
 (cK (decide (b < a))
 (k1 10)
 (k1 0)))))
def Lg:xM:=sld ajo
def ajf (v:xM)(α:Type)(k:RT α):I4 (Op α):=fun a b c d=>v α a b c d (fun e=>aR k e)
theorem awG:ak Pg 68 26 ⟨fZ,ajf Lg⟩:=iP ek2 aJb (ag Tryz.func68 (by kernel_rfl)) aJG fun _ _=>by kernel_rfl
def aAu:SG:=[(4,iS 2),(7,iT),(12,iT)]
def aCr:TG:=[tT 0 [1,2],tT 1 [1,2,3],tT 2 [2]]
def aC0:aq:=aw Pg Tryz.f151 aCr aC
def VX (α:Type)(b c:Int)(k1:Int->Int->Op α):Op α:=
 gh α b c
 (fun a=>k1 a a)
def yg:ee:=sld VX
def VU (v:ee)(α:Type)(k:RT α):Int->Int->Op α:=fun a b=>v α a b (fun c d=>g5 k a c d b)
theorem an9:ak Pg 151 15 ⟨ba,VU yg⟩:=iP ek2 aC0 (ag Tryz.func151 (by kernel_rfl)) aAu fun _ _=>by kernel_rfl
def awh:SG:=[(6,iS 2),(9,iS 2),(19,iT),(22,iT),(26,iT),(29,iT)]
def aG2:TG:=[tT 0 [1],tT 1 [1,3,4],tT 2 [4,11],tT 3 [2],tT 4 [34],tT 5 [2],tT 6 [2]]
def ahv:aq:=aw Pg Tryz.f119 aG2 aC
def D7:PT St:=pS [sP 1,sl 3 (aV false [(cD dB)]),sl 4 (aV false [(cD dB)])] [au 1 (xs 4)]
def aGh {β:Type}(g:St->β):Bool->Bool->I4 β:=D7.unc g
def ajp:PT St:=pS [sl 4 (aV false [(cD dB)]),sl 11 (aV false [(cD dB)])] []
def adf {β:Type}(g:St->β):Bool->Bool->β:=ajp.unc g
def alN:ah:=ah.sub [1,1,0,0,0] (emb ahv)
abbrev Fj:Type 1:=(α:Type)->Bool->Bool->Int->Int->Int->Int->(Bool->Op α)->Op α
def Gm (α:Type)(a b:Bool)(c d e g:Int)(k1:Bool->Op α):Op α:=
 cK a
 (cK (!b)
 (k1 true)
 (k1 (decide ((w64 (g - e))<=(w64 (d - c))))))
 (k1 false)
def tO:Fj:=sld Gm
def NW (v:Fj)(α:Type)(K:KT α):Bool->Bool->I4 (Op α):=fun b a c d e g=>v α b a c d e g (fun h=>adf (K .normal) a h)
theorem acE:∀ (α:Type) (K:KT α),NW tO α K=D7.unc fun σ=>az Pg Ek2 awh alN K σ:=aZ (fun α K=>by kernel_rfl)
def Zq (α:Type)(a b c d:Int)(k1:Int->Op α):Op α:=
 oX α a b
 (fun g=>oX α c d
 (fun e=>tO α g e a b c d
 (fun h=>cK h
 (k1 1)
 (cK e
 (k1 2)
 (k1 0)))))
def mR:xM:=sld Zq
def Ya (v:xM)(α:Type)(k:RT α):I4 (Op α):=fun a b c d=>v α a b c d (fun e=>aR k e)
def asN:ah:=(ah.put (.m [⟨D7,NW tO⟩]) [1,1,0,0] (emb ahv))
theorem ani:ak Pg 119 36 ⟨qN,Ya mR⟩:=iZ ek2 (ag Tryz.func119 (by kernel_rfl)) awh asN ((am _ _).trans (aA _)) (aM (by kernel_rfl) (aD ahv) ⟨acE,trivial⟩) fun _ _=>by kernel_rfl
def Nm:SG:=[(10,[.sl])]
def aGQ:TG:=[tT 0 [0],tT 1 [0,12,13],tT 2 [0,12,13,14],tT 3 [0,3,12,13],tT 4 [0,5,12,13],tT 5 [0,12,13,23],tT 6 [0,2],tT 7 [0,12,13],tT 8 [0,2]]
def aHx:TG:=[tT 2 [0,12,13]]
def Xe:aq:=aw Pg Tryz.f136 aGQ aHx
def sO:OT:=tdC (ah.sub [1,0,1,0] (emb Xe))
def BW:PT St:=pSv [(0,500000000,0)] [sl 0 (aV false [(cE 500000000 0)]),sI 12,sI 13] [au 500000000 [xI,xI,xI,xI,xI,xI,xI,(cD dL),xI,xI]]
def ET {β:Type}(g:St->β):Int->Int->Int->Int->Int->Int->Int->Int->Int->ae->Int->Int->β:=BW.unc g
def aiU:PT St:=pSv [(0,500000000,0)] [sl 0 (aV false [(cE 500000000 0)]),sl 2 (aV false [(cD dB)])] [au 500000000 [xI,xI,xI,xI,xI,xI,xI,(cD dL),xI,xI]]
def tZ {β:Type}(g:St->β):Bool->Int->Int->Int->Int->Int->Int->Int->ae->Int->Int->β:=aiU.unc g
def al4:PT St:=pSv [(0,500000000,0)] [sl 0 (aV false [(cE 500000000 0)]),sI 12,sI 13,sl 14 (aV false [(cD dB)])] [au 500000000 [xI,xI,xI,xI,xI,xI,xI,(cD dL),xI,xI]]
def vD {β:Type}(g:St->β):Int->Int->Bool->Int->Int->Int->Int->Int->Int->Int->ae->Int->Int->β:=al4.unc g
def aaz:PT (List RV):=pRs [pR false [rD dB],pR true [rD (dI .i64),rD (dI .i64),rD (dI .i64),rD (dI .i64),rD (dI .i64),rD (dI .i64),rD (dI .i64),rD dL,rD (dI .i64),rD (dI .i64)]]
def aa2 {β:Type}(g:List RV->β):Bool->Int->Int->Int->Int->Int->Int->Int->ae->Int->Int->β:=aaz.unc g
def ut:ah:=ah.sub [1,0,1,0,0] (emb Xe)
def pm (α:Type)(b c:Int)(d:ae)(e g a:Int)(kn:Int->Op α)(k1:Op α)(k2:Int->Bool->Op α):Op α:=
 cK (decide (a < b))
 (rY α c d e g a
 (fun i j h=>cK (h != 0)
 (k1)
 (kn (w64 (a+1)))))
 (k2 a (decide (a < b)))
def l9 (α:Type)(a b:Int)(c:ae)(d e:Int)(k1:Op α)(k2:Int->Bool->Op α):Nat->Int->Op α
 | 0,_=>none
 | n+1,g=>pm α a b c d e g (l9 α a b c d e k1 k2 n) k1 k2
def G3 (α:Type)(a b:Int)(c:ae)(d e:Int)(k1:Op α)(k2:Int->Bool->Op α)(g:Int):Op α:=l9 α a b c d e k1 k2 aE g
abbrev Fx:Type 1:=(α:Type)->Int->Int->ae->Int->Int->(Op α)->(Int->Bool->Op α)->Int->Op α
def uJ:Fx:=sld G3
def Lu (v:Fx)(α:Type)(K:KT α):Int->Int->Int->Int->Int->Int->Int->Int->Int->ae->Int->Int->Op α:=fun e o g a h i j l m b c d=>v α e a b c d (tZ (K .ret) true g a h i j l m b c d) (fun p q=>vD (K (.exit 0)) e p q g a h i j l m b c d) o
theorem ahb (α:Type)(K:KT α)(Kn:SK α)(e g h a i j l m o:Int)(b:ae)(c d:Int):ET (fun σ=>az Pg Ek2 Nm ut (bI (fun σ=>br sO σ Kn) K) σ) e g h a i j l m o b c d=pm α e a b c d g (fun g=>ET Kn e g h a i j l m o b c d) (tZ (K .ret) true h a i j l m o b c d) (fun p q=>vD (K (.exit 0)) e p q h a i j l m o b c d):=by kernel_rfl
theorem alj (α:Type)(K:KT α):∀ (n:Nat) (e o g a h i j l m:Int) (b:ae) (c d:Int),l9 α e a b c d (tZ (K .ret) true g a h i j l m b c d) (fun p q=>vD (K (.exit 0)) e p q g a h i j l m b c d) n o=ET (aJ (az Pg Ek2 Nm ut) sO K n) e o g a h i j l m b c d:=by
 intro n
 induction n with
 | zero=>intros;rfl
 | succ n ih=>intro e o g a h i j l m b c d;exact (congrArg (fun kn=>pm α e a b c d o kn (tZ (K .ret) true g a h i j l m b c d) (fun p q=>vD (K (.exit 0)) e p q g a h i j l m b c d)) (funext fun o=>ih e o g a h i j l m b c d)).trans (ahb α K (aJ (az Pg Ek2 Nm ut) sO K n) e o g a h i j l m b c d).symm
theorem acN:∀ (α:Type) (K:KT α),Lu uJ α K=BW.unc fun σ=>aJ (az Pg Ek2 Nm ut) sO K aE σ:=aZ (fun α K=>funext fun a=>funext fun b=>funext fun c=>funext fun d=>funext fun e=>funext fun g=>funext fun h=>funext fun i=>funext fun j=>funext fun l=>funext fun m=>funext fun o=>alj α K aE a b c d e g h i j l m o)
abbrev T6:Type 1:=(α:Type)->Int->ae->Int->Int->(Bool->Op α)->Op α
def Sl (α:Type)(b:Int)(a:ae)(c d:Int)(k1:Bool->Op α):Op α:=
 uJ α (w64 (((List.length a:Nat):Int)+2)) b a c d
 (k1 true)
 (fun e g=>k1 false) 0
def n7:T6:=sld Sl
def YL:PT (List DV):=pA [pV false [(dMr [(dI .i64),(dI .i64),(dI .i64),(dI .i64),(dI .i64),(dI .i64),(dI .i64),dL,(dI .i64),(dI .i64)] 0)]]
def R8 (v:T6)(α:Type)(k:RT α):Int->Int->Int->Int->Int->Int->Int->ae->Int->Int->Op α:=fun e a g h i j l b c d=>v α a b c d (fun m=>aa2 k m e a g h i j l b c d)
def anO:ah:=(ah.put (.m [⟨BW,Lu uJ⟩]) [1,0,1,0] (emb Xe))
theorem aqC:ak Pg 136 25 ⟨YL,R8 n7⟩:=iZ ek2 (ag Tryz.func136 (by kernel_rfl)) Nm anO ((am _ _).trans (aA _)) (aW (td:=sO) (by kernel_rfl) (aD Xe) ⟨acN,trivial⟩) fun _ _=>by kernel_rfl
def avP:SG:=[(7,iT),(13,iT),(21,iT),(28,iT),(30,iT)]
def aEe:TG:=[tT 0 [1,2],tT 1 [2,5],tT 2 [4],tT 3 [26],tT 4 [4],tT 5 [4]]
def aei:aq:=aw Pg Tryz.f253 aEe aC
def Bg:PT St:=pS [sI 1,sP 2] [au 2 [xI,xI]]
def aE4 {β:Type}(g:St->β):Int->Int->Int->β:=Bg.unc g
def adH:PT St:=pS [sP 2,sl 5 (aV false [(cD dB)])] [au 2 [xI,xI]]
def Lv {β:Type}(g:St->β):Bool->Int->Int->β:=adH.unc g
def ahy:ah:=ah.sub [1,0,0,0] (emb aei)
def Hm (α:Type)(a c b:Int)(k1:Bool->Op α):Op α:=
 kU α c a 1099511627776
 (fun d=>cK (!d)
 (k1 true)
 (cK (decide (1099511627776 < b))
 (k1 true)
 (cK (decide (a < 0))
 (k1 (decide (b < a)))
 (k1 false))))
def wV:cg:=sld Hm
def NL (v:cg)(α:Type)(K:KT α):Int->Int->Int->Op α:=fun c a b=>v α c a b (fun d=>Lv (K .normal) d a b)
theorem aeY:∀ (α:Type) (K:KT α),NL wV α K=Bg.unc fun σ=>az Pg Ek2 avP ahy K σ:=aZ (fun α K=>by kernel_rfl)
abbrev qi:Type 1:=(α:Type)->Int->Int->Int->(Int->Op α)->Op α
def Vr (α:Type)(a b c:Int)(k1:Int->Op α):Op α:=
 wV α c a b
 (fun d=>cK d
 (k1 2)
 (cK (decide (b < a))
 (k1 10)
 (k1 0)))
def xz:qi:=sld Vr
def Uq (v:qi)(α:Type)(k:RT α):Int->Int->Int->Op α:=fun a b c=>v α a b c (fun d=>aR k d)
def au1:ah:=(ah.put (.m [⟨Bg,NL wV⟩]) [1,0,0] (emb aei))
theorem auB:ak Pg 253 32 ⟨zZ,Uq xz⟩:=iZ ek2 (ag Tryz.func253 (by kernel_rfl)) avP au1 ((am _ _).trans (aA _)) (aM (by kernel_rfl) (aD aei) ⟨aeY,trivial⟩) fun _ _=>by kernel_rfl
def aBY:TG:=[tT 0 [0],tT 1 [2]]
def aDD:aq:=aw Pg Tryz.f260 aBY aC
def Qs (α:Type)(a:Int)(k1:Int->Op α):Op α:=
 gW α a
 (fun b=>k1 (w64 (64 - b)))
def Ci:ce:=sld Qs
def Ua (v:ce)(α:Type)(k:RT α):Int->Op α:=fun a=>v α a (fun b=>aR k b)
theorem aqW:ak Pg 260 6 ⟨zR,Ua Ci⟩:=iP ek2 aDD (ag Tryz.func260 (by kernel_rfl)) aO fun _ _=>by kernel_rfl
def avl:SG:=[(7,iS 2),(9,iS 2),(12,iT),(14,iT)]
def aBW:TG:=[tT 0 [2,3,4],tT 1 [4,5]]
def aBc:aq:=aw Pg Tryz.f227 aBW aC
def ZQ:PT (List RV):=pRs [pR true [rD (dI .i64),rD (dI .i64),rD (dI .i64)],wI]
def bG {β:Type}(g:List RV->β):I4 β:=ZQ.unc g
abbrev fS:Type 1:=(α:Type)->Int->Int->Int->Int->Int->Int->(Int->Int->Int->Op α)->Op α
def YM (α:Type)(a b c d e g:Int)(k1:Int->Int->Int->Op α):Op α:=
 KY α a b d e
 (fun h i=>k1 h i (w64 (c+g)))
def IT:fS:=sld YM
def ef:PT (List DV):=pA [pV true [(dI .i64),(dI .i64),(dI .i64)],pV true [(dI .i64),(dI .i64),(dI .i64)]]
def R0 (v:fS)(α:Type)(k:RT α):I6 (Op α):=fun a b c d e g=>v α a b c d e g (fun h i j=>bG k h i j 0)
theorem asY:ak Pg 227 17 ⟨ef,R0 IT⟩:=iP ek2 aBc (ag Tryz.func227 (by kernel_rfl)) avl fun _ _=>by kernel_rfl
def aC8:TG:=[tT 0 [0,1],tT 1 [4]]
def aDa:aq:=aw Pg Tryz.f168 aC8 aC
def Jp (α:Type)(a b:Int)(k1:Int->Op α):Op α:=
 gT α (w64 (0 - a)) b
 (fun c=>k1 (w64 (0 - c)))
def cG:bB:=sld Jp
def Ub (v:bB)(α:Type)(k:RT α):Int->Int->Op α:=fun a b=>v α a b (fun c=>aR k c)
theorem aml:ak Pg 168 10 ⟨bt,Ub cG⟩:=iP ek2 aDa (ag Tryz.func168 (by kernel_rfl)) aO fun _ _=>by kernel_rfl
def aDF:TG:=[tT 0 [0],tT 1 [0,3],tT 2 [0,3,12],tT 3 [0,3],tT 4 [0,3,21],tT 5 [0,3],tT 6 [2]]
def aAV:TG:=[tT 2 [0,3],tT 4 [0,3]]
def GQ:aq:=aw Pg Tryz.f198 aDF aAV
def vW:OT:=tdC (ah.sub [1,1,0,0] (emb GQ))
def ou:OT:=tdC (ah.sub [1,1,1,0,0] (emb GQ))
def akD:PT St:=pS [sI 0,sI 3,sl 12 (aV false [(cD dB)])] []
def vF {β:Type}(g:St->β):Int->Int->Bool->β:=akD.unc g
def aec:PT St:=pS [sI 0,sI 3,sl 21 (aV false [(cD dB)])] []
def vN {β:Type}(g:St->β):Int->Int->Bool->β:=aec.unc g
def rb:ah:=ah.sub [1,1,1,0,0,0] (emb GQ)
def pk (α:Type)(b a:Int)(kn:Int->Op α)(k1:Int->Bool->Op α):Op α:=
 cK (decide ((w64 ((w64 (a+1))*(w64 (a+1))))<=b))
 (kn (w64 (a+1)))
 (k1 a (decide ((w64 ((w64 (a+1))*(w64 (a+1))))<=b)))
def fP (α:Type)(a:Int)(k1:Int->Bool->Op α):Nat->Int->Op α
 | 0,_=>none
 | n+1,b=>pk α a b (fP α a k1 n) k1
def Gw (α:Type)(a:Int)(k1:Int->Bool->Op α)(b:Int):Op α:=fP α a k1 aE b
def lX:jc:=sld Gw
def NF (v:jc)(α:Type)(K:KT α):Int->Int->Op α:=fun a b=>v α a (fun c d=>vN (K (.exit 2)) a c d) b
theorem ajI (α:Type)(K:KT α)(Kn:SK α)(a b:Int):gH (fun σ=>az Pg Ek2 aO rb (bI (fun σ=>br ou σ Kn) K) σ) a b=pk α a b (fun b=>gH Kn a b) (fun c d=>vN (K (.exit 2)) a c d):=by kernel_rfl
theorem ahN (α:Type)(K:KT α):∀ (n:Nat) (a b:Int),fP α a (fun c d=>vN (K (.exit 2)) a c d) n b=gH (aJ (az Pg Ek2 aO rb) ou K n) a b:=by
 intro n
 induction n with
 | zero=>intros;rfl
 | succ n ih=>intro a b;exact (congrArg (fun kn=>pk α a b kn (fun c d=>vN (K (.exit 2)) a c d)) (funext fun b=>ih a b)).trans (ajI α K (aJ (az Pg Ek2 aO rb) ou K n) a b).symm
theorem ab6:∀ (α:Type) (K:KT α),NF lX α K=jm.unc fun σ=>aJ (az Pg Ek2 aO rb) ou K aE σ:=aZ (fun α K=>funext fun a=>funext fun b=>ahN α K aE a b)
def vg:ah:=ah.sub [1,1,0,0,0] (emb GQ)
def mr (α:Type)(b a:Int)(kn:Int->Op α)(k1:Int->Bool->Op α):Op α:=
 cK (decide (b < (w64 (a*a))))
 (kn (w64 (a - 1)))
 (k1 a (decide (b < (w64 (a*a)))))
def fp (α:Type)(a:Int)(k1:Int->Bool->Op α):Nat->Int->Op α
 | 0,_=>none
 | n+1,b=>mr α a b (fp α a k1 n) k1
def GG (α:Type)(a:Int)(k1:Int->Bool->Op α)(b:Int):Op α:=fp α a k1 aE b
def lY:jc:=sld GG
def Nd (v:jc)(α:Type)(K:KT α):Int->Int->Op α:=fun a b=>v α a (fun c d=>vF (K (.exit 0)) a c d) b
theorem akb (α:Type)(K:KT α)(Kn:SK α)(a b:Int):gH (fun σ=>az Pg Ek2 aO vg (bI (fun σ=>br vW σ Kn) K) σ) a b=mr α a b (fun b=>gH Kn a b) (fun c d=>vF (K (.exit 0)) a c d):=by kernel_rfl
theorem aih (α:Type)(K:KT α):∀ (n:Nat) (a b:Int),fp α a (fun c d=>vF (K (.exit 0)) a c d) n b=gH (aJ (az Pg Ek2 aO vg) vW K n) a b:=by
 intro n
 induction n with
 | zero=>intros;rfl
 | succ n ih=>intro a b;exact (congrArg (fun kn=>mr α a b kn (fun c d=>vF (K (.exit 0)) a c d)) (funext fun b=>ih a b)).trans (akb α K (aJ (az Pg Ek2 aO vg) vW K n) a b).symm
theorem akr:∀ (α:Type) (K:KT α),Nd lY α K=jm.unc fun σ=>aJ (az Pg Ek2 aO vg) vW K aE σ:=aZ (fun α K=>funext fun a=>funext fun b=>aih α K aE a b)
def VP (α:Type)(a:Int)(k1:Int->Op α):Op α:=
 Jf α (FloatKind.nearest .f64 a)
 (fun b=>ivK (f2i .f64 b .i64)
 (fun c=>lY α a
 (fun d g=>lX α a
 (fun e h=>k1 e) d) c))
def eG:ce:=sld VP
def Tk (v:ce)(α:Type)(k:RT α):Int->Op α:=fun a=>v α a (fun b=>aR k b)
def ao8:ah:=(ah.put (.m [⟨jm,Nd lY⟩]) [1,1,0,0] (ah.put (.m [⟨jm,NF lX⟩]) [1,1,1,0,0] (emb GQ)))
theorem anL:ak Pg 198 25 ⟨aU,Tk eG⟩:=iZ ek2 (ag Tryz.func198 (by kernel_rfl)) aO ao8 ((am _ _).trans ((am _ _).trans (aA _))) (aW (td:=vW) (by kernel_rfl) (aW (td:=ou) (by kernel_rfl) (aD GQ) ⟨ab6,trivial⟩) ⟨akr,trivial⟩) fun _ _=>by kernel_rfl
def az2:TG:=[tT 0 [2,3,4],tT 1 [4,5]]
def aFZ:aq:=aw Pg Tryz.f217 az2 aC
def V0 (α:Type)(a b c d e g:Int)(k1:Int->Int->Int->Op α):Op α:=
 yc α a b d e
 (fun h i=>k1 h i (w64 (c+g)))
def Kz:fS:=sld V0
def WR (v:fS)(α:Type)(k:RT α):I6 (Op α):=fun a b c d e g=>v α a b c d e g (fun h i j=>bG k h i j 0)
theorem auf:ak Pg 217 17 ⟨ef,WR Kz⟩:=iP ek2 aFZ (ag Tryz.func217 (by kernel_rfl)) avl fun _ _=>by kernel_rfl
def aKM:TG:=[tT 0 [0,1],tT 1 [0,1,6],tT 2 [0],tT 3 [0,10],tT 4 [0],tT 5 [4]]
def aJh:aq:=aw Pg Tryz.f84 aKM aC
abbrev agA:Type 1:=(α:Type)->Nat->Int->(Bool->Op α)->Op α
def adt (α:Type)(a:Nat)(b:Int)(k1:Bool->Op α):Op α:=
 cK (b == 0)
 (yF α a
 (fun c=>k1 ((FloatKind.format .f64).order c 9218868437227405311 == some Ordering.gt)))
 (cK (decide (b < 0))
 (k1 ((FloatKind.format .f64).order (Op.negFloat .f64 a) 9218868437227405311 == some Ordering.gt))
 (k1 ((FloatKind.format .f64).order a 9218868437227405311 == some Ordering.gt)))
def WZ:agA:=sld adt
def akx:PT (List DV):=pA [pV false [(dF .f64)],vI]
def agH (v:agA)(α:Type)(k:RT α):Nat->Int->Op α:=fun a b=>v α a b (fun c=>bi k c)
theorem awU:ak Pg 84 15 ⟨akx,agH WZ⟩:=iP ek2 aJh (ag Tryz.func84 (by kernel_rfl)) aO fun _ _=>by kernel_rfl
def aIm:TG:=[tT 0 [0,1],tT 1 [4,5]]
def aBo:aq:=aw Pg Tryz.f221 aIm aC
def YD (α:Type)(b a:Int)(k1:Int->Bool->Op α):Op α:=
 gT α (w64 ((w64 (2*b))+a)) (w64 (2*a))
 (fun c=>gK (a != 0) (k1 c ((Int.tmod b a) != 0)))
def nh:qW:=sld YD
def Qk (v:qW)(α:Type)(k:RT α):Int->Int->Op α:=fun a b=>v α a b (fun c d=>qv k c d)
theorem apd:ak Pg 221 17 ⟨bt,Qk nh⟩:=iP ek2 aBo (ag Tryz.func221 (by kernel_rfl)) aO fun _ _=>by kernel_rfl
def aGC:TG:=[tT 0 [0,1],tT 1 [4]]
def aBL:aq:=aw Pg Tryz.f197 aGC aC
def Yt (α:Type)(b a:Int)(k1:Bool->Op α):Op α:=
 kU α b (w64 (0 - a)) a
 (fun c=>k1 c)
def jy:cY:=sld Yt
def Yg (v:cY)(α:Type)(k:RT α):Int->Int->Op α:=fun a b=>v α a b (fun c=>bi k c)
theorem anP:ak Pg 197 10 ⟨bt,Yg jy⟩:=iP ek2 aBL (ag Tryz.func197 (by kernel_rfl)) aO fun _ _=>by kernel_rfl
def aA0:TG:=[tT 0 [0],tT 1 [2]]
def aD9:aq:=aw Pg Tryz.f117 aA0 aC
def XB (α:Type)(a:Int)(k1:Bool->Op α):Op α:=
 ov α a 1000 200000
 (fun b=>k1 b)
def DB:cW:=sld XB
def U0 (v:cW)(α:Type)(k:RT α):Int->Op α:=fun a=>v α a (fun b=>bi k b)
theorem atG:ak Pg 117 5 ⟨aU,U0 DB⟩:=iP ek2 aD9 (ag Tryz.func117 (by kernel_rfl)) aO fun _ _=>by kernel_rfl
def aA7:TG:=[tT 0 [0],tT 1 [2]]
def aEZ:aq:=aw Pg Tryz.f116 aA7 aC
def Rl (α:Type)(a:Int)(k1:Bool->Op α):Op α:=
 ov α a 0 9999
 (fun b=>k1 b)
def Ei:cW:=sld Rl
def U6 (v:cW)(α:Type)(k:RT α):Int->Op α:=fun a=>v α a (fun b=>bi k b)
theorem anU:ak Pg 116 5 ⟨aU,U6 Ei⟩:=iP ek2 aEZ (ag Tryz.func116 (by kernel_rfl)) aO fun _ _=>by kernel_rfl
def aCL:TG:=[tT 0 [1,2,3],tT 1 [6]]
def aBq:aq:=aw Pg Tryz.f149 aCL aC
def YI (α:Type)(c d a b:Int)(k1:Bool->Op α):Op α:=
 pf α c a b
 (fun e=>cK e
 (pf α d a b
 (fun g=>k1 g))
 (k1 false))
def yN:f4:=sld YI
def Wg (v:f4)(α:Type)(k:RT α):I4 (Op α):=fun a b c d=>v α a b c d (fun e=>bi k e)
theorem aoz:ak Pg 149 19 ⟨fZ,Wg yN⟩:=iP ek2 aBq (ag Tryz.func149 (by kernel_rfl)) RB fun _ _=>by kernel_rfl
def aFg:SG:=[(4,iT),(8,iT)]
def aE1:TG:=[tT 0 [1],tT 1 [2]]
def aCY:aq:=aw Pg Tryz.f148 aE1 aC
def Rk (α:Type)(a b:Int)(k1:Bool->Op α):Op α:=
 pf α a 0 2
 (fun c=>cK c
 (pf α b 0 1
 (fun d=>k1 d))
 (k1 false))
def DL:cY:=sld Rk
def Vt (v:cY)(α:Type)(k:RT α):I9 (Op α):=fun a b d e g h i j l=>v α a b (fun c=>bi k c)
theorem asE:ak Pg 148 11 ⟨kW,Vt DL⟩:=iP ek2 aCY (ag Tryz.func148 (by kernel_rfl)) aFg fun _ _=>by kernel_rfl
def aJS:TG:=[tT 0 [0],tT 1 [2]]
def aIM:aq:=aw Pg Tryz.f79 aJS aC
def Pt (α:Type)(a:Int)(k1:Bool->Op α):Op α:=
 ov α a 0 1000000
 (fun b=>k1 b)
def CM:cW:=sld Pt
def akX (v:cW)(α:Type)(k:RT α):Int->Op α:=fun a=>v α a (fun b=>bi k b)
theorem ayF:ak Pg 79 5 ⟨aU,akX CM⟩:=iP ek2 aIM (ag Tryz.func79 (by kernel_rfl)) aO fun _ _=>by kernel_rfl
def aKQ:TG:=[tT 0 [0],tT 1 [2]]
def aJl:aq:=aw Pg Tryz.f78 aKQ aC
def KL (α:Type)(a:Int)(k1:Bool->Op α):Op α:=
 ov α a 0 80000
 (fun b=>k1 b)
def y8:cW:=sld KL
def aeu (v:cW)(α:Type)(k:RT α):Int->Op α:=fun a=>v α a (fun b=>bi k b)
theorem azh:ak Pg 78 5 ⟨aU,aeu y8⟩:=iP ek2 aJl (ag Tryz.func78 (by kernel_rfl)) aO fun _ _=>by kernel_rfl
def aIY:TG:=[tT 0 [0],tT 1 [2]]
def aKj:aq:=aw Pg Tryz.f77 aIY aC
def Iv (α:Type)(a:Int)(k1:Bool->Op α):Op α:=
 ov α a 5000 80000
 (fun b=>k1 b)
def ro:cW:=sld Iv
def alX (v:cW)(α:Type)(k:RT α):Int->Op α:=fun a=>v α a (fun b=>bi k b)
theorem azj:ak Pg 77 5 ⟨aU,alX ro⟩:=iP ek2 aKj (ag Tryz.func77 (by kernel_rfl)) aO fun _ _=>by kernel_rfl
def aKp:TG:=[tT 0 [1,2,3],tT 1 [6]]
def aKw:aq:=aw Pg Tryz.f76 aKp aC
def aio (α:Type)(c d a b:Int)(k1:Bool->Op α):Op α:=
 lD α c a b
 (fun e=>cK e
 (lD α d a b
 (fun g=>k1 g))
 (k1 false))
def OF:f4:=sld aio
def adD (v:f4)(α:Type)(k:RT α):I4 (Op α):=fun a b c d=>v α a b c d (fun e=>bi k e)
theorem azH:ak Pg 76 19 ⟨fZ,adD OF⟩:=iP ek2 aKw (ag Tryz.func76 (by kernel_rfl)) RB fun _ _=>by kernel_rfl
def aKe:SG:=[(4,[.sl]),(7,[.sl]),(11,[.sl]),(16,[.sl,.sl,.int .i64,.sl,.int .i64,.int .i64])]
def aKT:TG:=[(0,⟨[1,2],true,[⟨true,2,0,30200,3⟩,⟨true,2,1,30201,2⟩,⟨true,2,3,30203,9⟩],[]⟩),(1,⟨[1,2],true,[⟨true,2,0,30200,3⟩,⟨true,2,1,30201,2⟩,⟨true,2,3,30203,9⟩],[]⟩),(2,⟨[2],true,[⟨true,2,0,30200,3⟩,⟨true,2,1,30201,2⟩,⟨true,2,3,30203,9⟩],[]⟩)]
def aIE:aq:=aw Pg Tryz.f10 aKT aC
def aet:PT (List RV):=pRs [pR true [rO 3,rO 2,rD (dI .i64),rO 9,rD (dI .i64),rD (dI .i64)]]
def ab7 {β:Type}(g:List RV->β):ae->ae->Int->ae->Int->Int->β:=aet.unc g
abbrev adF:Type 1:=(α:Type)->ae->ae->ae->(ae->ae->ae->Op α)->Op α
def ag9 (α:Type)(b c a:ae)(k1:ae->ae->ae->Op α):Op α:=
 Eu α b
 (fun d=>Zb α c
 (fun e=>gK (dH 9 72 ([]:ae) a) (k1 d e (([]:ae)++a))))
def yX:adF:=sld ag9
def aef (v:adF)(α:Type)(k:RT α):ae->ae->Int->ae->Int->Int->Op α:=fun a b c d e g=>v α a b d (fun h i j=>ab7 k h i c j e g)
theorem ayl:ak Pg 10 17 ⟨eN,aef yX⟩:=iP ek2 aIE (ag Tryz.func10 (by kernel_rfl)) aKe fun _ _=>by kernel_rfl
def sh7:SG:=[(5,[.sl,.sl,.int .i64,.sl,.int .i64,.int .i64]),(10,[.sl]),(15,[.sl]),(22,[.sl]),(28,[.sl]),(34,[.sl]),(36,iS 9),(37,iS 9),(40,iT),(45,iT),(48,iT),(55,iT),(60,iT),(63,iT)]
def tr7:TG:=[tT 0 [1],tT 1 [1,25],tT 2 [2],tT 3 [1,3],tT 4 [1,3,30],tT 6 [1,3,4],tT 7 [1,3,67],tT 8 [2],tT 5 [1,3],tT 9 [2]]
def tl7:TG:=[(4,⟨[1,3],true,[⟨true,1,0,30100,3⟩,⟨true,1,1,30101,2⟩,⟨true,1,3,30103,9⟩],[]⟩)]
def ac7:aq:=aw Pg Tryz.f7 tr7 tl7
def EJ:OT:=tdC (ah.sub [1,1,0,1,0] (emb ac7))
def PS:PT St:=pS [sP 1] [au 1 [(cD dL),(cD dL),xI,(cD dL),xI,xI]]
def aIV {β:Type}(g:St->β):ae->ae->Int->ae->Int->Int->β:=PS.unc g
def ayH:PT St:=pS [sl 2 (aV false [(cD dB)])] []
def EA {β:Type}(g:St->β):Bool->β:=ayH.unc g
def axM:PT St:=pS [sP 1,sl 25 (aV false [(cD dB)])] [au 1 [(cD dL),(cD dL),xI,(cD dL),xI,xI]]
def axJ {β:Type}(g:St->β):Bool->ae->ae->Int->ae->Int->Int->β:=axM.unc g
def KH:PT St:=pS [sP 1,sI 3,sP 4] [au 1 [(cD dL),(cD dL),xI,(cD dL),xI,xI],au 4 (xs 9)]
def aLl {β:Type}(g:St->β):Int->ae->ae->Int->ae->I11 β:=KH.unc g
def axs:PT St:=pS [sP 1,sI 3,sl 67 (aV false [(cD dB)])] [au 1 [(cD dL),(cD dL),xI,(cD dL),xI,xI]]
def ayr {β:Type}(g:St->β):Int->Bool->ae->ae->Int->ae->Int->Int->β:=axs.unc g
def PM:PT St:=pS [sP 1,sI 3] [au 1 [(cD dL),(cD dL),xI,(cD dL),xI,xI]]
def Pw {β:Type}(g:St->β):Int->ae->ae->Int->ae->Int->Int->β:=PM.unc g
def awQ:PT St:=pS [sP 1,sI 3,sl 30 (aV false [(cD dB)])] [au 1 [(cD dL),(cD dL),xI,(cD dL),xI,xI]]
def KI {β:Type}(g:St->β):Int->Bool->ae->ae->Int->ae->Int->Int->β:=awQ.unc g
def asV:ah:=ah.sub [1,1,0,1,0,0,1,0,0,1,0] (emb ac7)
def Xz (α:Type)(a b c d:Int)(k1:Bool->Op α):Op α:=
 cF α c 1000 200000
 (fun e=>cK e
 (cF α d (w64 (c+200)) 200000
 (fun g=>cK g
 (k1 true)
 (cF α a 0 9999
 (fun h=>cK h
 (cF α b (w64 (a+200)) 9999
 (fun i=>k1 i))
 (k1 false)))))
 (cF α a 0 9999
 (fun j=>cK j
 (cF α b (w64 (a+200)) 9999
 (fun l=>k1 l))
 (k1 false))))
def ym:f4:=sld Xz
def O9 (v:f4)(α:Type)(K:KT α):Int->ae->ae->Int->ae->I11 (Op α):=fun a b c d e g h p q r i j l m s t=>v α i j l m (fun o=>ayr (K .normal) a o b c d e g h)
theorem azd:∀ (α:Type) (K:KT α),O9 ym α K=KH.unc fun σ=>az Pg Ek2 sh7 asV K σ:=aZ (fun α K=>by kernel_rfl)
def zW:ah:=ah.sub [1,1,0,1,0,0] (ah.put (.m [⟨KH,O9 ym⟩]) [1,1,0,1,0,0,1,0,0,1] (emb ac7))
def Dr (α:Type)(b:ae)(a:Int)(kn:Int->Op α)(k1:Op α)(k2:Int->Bool->Op α):Op α:=
 cK (decide (a < ((List.length b:Nat):Int)))
 (dT b a [.int .i64,.int .i64,.int .i64,.int .i64,.int .i64,.int .i64,.int .i64,.int .i64,.int .i64]
 (fun i j l c d e g m o=>ym α c d e g
 (fun h=>cK h
 (k1)
 (kn (w64 (a+1))))))
 (k2 a (decide (a < ((List.length b:Nat):Int))))
def sp (α:Type)(a:ae)(k1:Op α)(k2:Int->Bool->Op α):Nat->Int->Op α
 | 0,_=>none
 | n+1,b=>Dr α a b (sp α a k1 k2 n) k1 k2
def SH (α:Type)(a:ae)(k1:Op α)(k2:Int->Bool->Op α)(b:Int):Op α:=sp α a k1 k2 aE b
abbrev Am:Type 1:=(α:Type)->ae->(Op α)->(Int->Bool->Op α)->Int->Op α
def ng:Am:=sld SH
def akc (v:Am)(α:Type)(K:KT α):Int->ae->ae->Int->ae->Int->Int->Op α:=fun b c d e a g h=>v α a (EA (K .ret) false) (fun i j=>KI (K (.exit 0)) i j c d e a g h) b
theorem ax3 (α:Type)(K:KT α)(Kn:SK α)(a:Int)(c d:ae)(e:Int)(b:ae)(g h:Int):Pw (fun σ=>az Pg Ek2 sh7 zW (bI (fun σ=>br EJ σ Kn) K) σ) a c d e b g h=Dr α b a (fun a=>Pw Kn a c d e b g h) (EA (K .ret) false) (fun i j=>KI (K (.exit 0)) i j c d e b g h):=by kernel_rfl
theorem awS (α:Type)(K:KT α):∀ (n:Nat) (b:Int) (c d:ae) (e:Int) (a:ae) (g h:Int),sp α a (EA (K .ret) false) (fun i j=>KI (K (.exit 0)) i j c d e a g h) n b=Pw (aJ (az Pg Ek2 sh7 zW) EJ K n) b c d e a g h:=by
 intro n
 induction n with
 | zero=>intros;rfl
 | succ n ih=>intro b c d e a g h;exact (congrArg (fun kn=>Dr α a b kn (EA (K .ret) false) (fun i j=>KI (K (.exit 0)) i j c d e a g h)) (funext fun b=>ih b c d e a g h)).trans (ax3 α K (aJ (az Pg Ek2 sh7 zW) EJ K n) b c d e a g h).symm
theorem ayJ:∀ (α:Type) (K:KT α),akc ng α K=PM.unc fun σ=>aJ (az Pg Ek2 sh7 zW) EJ K aE σ:=aZ (fun α K=>funext fun a=>funext fun b=>funext fun c=>funext fun d=>funext fun e=>funext fun g=>funext fun h=>awS α K aE a b c d e g h)
def ayg:ah:=ah.sub [1,0] (emb ac7)
abbrev Uy:Type 1:=(α:Type)->ae->ae->ae->(Op α)->(Bool->Op α)->Op α
def YO (α:Type)(b c a:ae)(k1:Op α)(k2:Bool->Op α):Op α:=
 YE α b c a
 (fun d=>cK (!d)
 (k1)
 (cK (decide (3 < ((List.length b:Nat):Int)))
 (cK (decide (((List.length b:Nat):Int)<=40))
 (k1)
 (cK (decide (2 < ((List.length a:Nat):Int)))
 (k1)
 (k2 (decide (2 < ((List.length a:Nat):Int))))))
 (cK (decide (2 < ((List.length a:Nat):Int)))
 (k1)
 (k2 (decide (2 < ((List.length a:Nat):Int)))))))
def Kx:Uy:=sld YO
def ac9 (v:Uy)(α:Type)(K:KT α):ae->ae->Int->ae->Int->Int->Op α:=fun a b d c e g=>v α a b c (EA (K .ret) false) (fun h=>axJ (K .normal) h a b d c e g)
theorem azZ:∀ (α:Type) (K:KT α),ac9 Kx α K=PS.unc fun σ=>az Pg Ek2 sh7 ayg K σ:=aZ (fun α K=>by kernel_rfl)
def avS (α:Type)(b c a:ae)(k1:Bool->Op α):Op α:=
 Kx α b c a
 (k1 false)
 (fun d=>ng α a
 (k1 false)
 (fun e g=>k1 true) 0)
def afg:KA:=sld avS
def avQ (v:KA)(α:Type)(k:RT α):ae->ae->Int->ae->Int->Int->Op α:=fun a b e c g h=>v α a b c (fun d=>bi k d)
def aED:ah:=(ah.put (.m [⟨PS,ac9 Kx⟩]) [1] (ah.put (.m [⟨PM,akc ng⟩]) [1,1,0,1,0] (ah.put (.m [⟨KH,O9 ym⟩]) [1,1,0,1,0,0,1,0,0,1] (emb ac7))))
theorem aCD:ak Pg 7 68 ⟨eN,avQ afg⟩:=iZ ek2 (ag Tryz.func7 (by kernel_rfl)) sh7 aED ((am _ _).trans ((am _ _).trans ((am _ _).trans (aA _)))) (aM (by kernel_rfl) (aW (td:=EJ) (by kernel_rfl) (aM (by kernel_rfl) (aD ac7) ⟨azd,trivial⟩) ⟨ayJ,trivial⟩) ⟨azZ,trivial⟩) fun _ _=>by kernel_rfl
def avv:SG:=[(8,iS 4),(9,iS 4),(12,iS 2),(15,iS 2),(22,iS 2),(25,iS 2),(31,iS 4),(32,iS 4)]
def aBE:TG:=[tT 0 [1,2,4,5],tT 1 [1,2,4,5,6,7],tT 2 [2,4,5,6,7,10],tT 3 [4,5,6,7],tT 4 [4,5,6,7],tT 5 [4,5]]
def aln:aq:=aw Pg Tryz.f105 aBE aC
def CB:PT St:=pS [sl 1 (aV false [(cD dB)]),sP 2,sP 4,sP 5,sP 6,sP 7] [au 2 (xs 4),au 4 (xs 4),au 5 (xs 4),au 6 (xs 4),au 7 (xs 4)]
def aAh {β:Type}(g:St->β):Bool->I20 β:=CB.unc g
def ab0:PT St:=pS [sP 4,sP 5,sP 6,sP 7] [au 4 (xs 4),au 5 (xs 4),au 6 (xs 4),au 7 (xs 4)]
def aiB {β:Type}(g:St->β):I16 β:=ab0.unc g
def aa0:PT (List RV):=pRs [pR true [rD (dI .i64),rD (dI .i64),rD (dI .i64),rD (dI .i64)],pR true [rD (dI .i64),rD (dI .i64),rD (dI .i64),rD (dI .i64)]]
def abb {β:Type}(g:List RV->β):I8 β:=aa0.unc g
def aeR:ah:=ah.sub [1,1,0] (emb aln)
abbrev Fh:Type 1:=(α:Type)->Bool->Int->Int->Int->Int->Int->Int->Int->Int->(I4 (Op α))->Op α
def Fi (α:Type)(e:Bool)(a b c d g h i j:Int)(k1:I4 (Op α)):Op α:=
 cK e
 (fB α a b
 (fun l=>fB α a b
 (fun m=>k1 l h m j)))
 (fB α c d
 (fun o=>fB α c d
 (fun p=>k1 g o i p)))
def vn:Fh:=sld Fi
def My (v:Fh)(α:Type)(K:KT α):Bool->I20 (Op α):=fun a b c d e g h i j l m o p q r s t w z A B=>v α a b c d e r t w A (fun C D F G=>aiB (K .normal) g h i j l m o p q C s D F z G B)
theorem ac3:∀ (α:Type) (K:KT α),My vn α K=CB.unc fun σ=>az Pg Ek2 avv aeR K σ:=aZ (fun α K=>by kernel_rfl)
abbrev Zz:Type 1:=(α:Type)->Int->Int->Int->Int->Bool->(I4 (Op α))->Op α
def Qc (α:Type)(a b c d:Int)(e:Bool)(k1:I4 (Op α)):Op α:=
 vn α e a b c d b d a c
 (fun g h i j=>k1 g h i j)
def gC:Zz:=sld Qc
def YP:PT (List DV):=pA [pV true [(dI .i64),(dI .i64),(dI .i64),(dI .i64)],pV false [dB]]
def SC (v:Zz)(α:Type)(k:RT α):I4 (Bool->Op α):=fun a b c d e=>v α a b c d e (fun g h i j=>abb k a g c h i b j d)
def aqM:ah:=(ah.put (.m [⟨CB,My vn⟩]) [1,1] (emb aln))
theorem auU:ak Pg 105 33 ⟨YP,SC gC⟩:=iZ ek2 (ag Tryz.func105 (by kernel_rfl)) avv aqM ((am _ _).trans (aA _)) (aM (by kernel_rfl) (aD aln) ⟨ac3,trivial⟩) fun _ _=>by kernel_rfl
def aD2:TG:=[tT 0 [0,1],tT 1 [0,1],tT 2 [0,1,12],tT 3 [1,5],tT 4 [1,5],tT 5 [1,5,6,7],tT 6 [1,5,6,7,24],tT 7 [1,5,6,7],tT 8 [1,5,6,7],tT 9 [1,5,6,7,29],tT 10 [1,6,9],tT 11 [1,6,8],tT 12 [1,6,10],tT 13 [1,6,8],tT 14 [1,6,8,11],tT 15 [1,6,8,11,59],tT 17 [1,6,8,11,62],tT 18 [1,6,8,11],tT 19 [1,6,8,11],tT 16 [1,6,8,11],tT 20 [4]]
def aGo:TG:=[tT 6 [1,5,6,7],tT 15 [1,6,8,11]]
def zh:aq:=aw Pg Tryz.f287 aD2 aGo
def oP:OT:=tdC (ah.sub [1,1,1,1,0,0] (emb zh))
def pB:OT:=tdC (ah.sub [1,1,1,1,1,1,1,0,1,0] (emb zh))
def By:PT St:=pS [sI 0,sl 1 (aV false [(cD dB)])] []
def aAa {β:Type}(g:St->β):Int->Bool->β:=By.unc g
def ajA:PT St:=pS [sl 1 (aV false [(cD dB)]),sI 5] []
def ajP {β:Type}(g:St->β):Bool->Int->β:=ajA.unc g
def ox:PT St:=pS [sl 1 (aV false [(cD dB)]),sI 5,sI 6,sI 7] []
def BU {β:Type}(g:St->β):Bool->Int->Int->Int->β:=ox.unc g
def agz:PT St:=pS [sl 1 (aV false [(cD dB)]),sI 5,sI 6,sI 7,sl 24 (aV false [(cD dB)])] []
def tp {β:Type}(g:St->β):Bool->Int->Int->Int->Bool->β:=agz.unc g
def acY:PT St:=pS [sl 1 (aV false [(cD dB)]),sI 6,sI 8] []
def ajK {β:Type}(g:St->β):Bool->Int->Int->β:=acY.unc g
def Ca:PT St:=pS [sl 1 (aV false [(cD dB)]),sI 6,sI 8,sI 11] []
def Cw {β:Type}(g:St->β):Bool->Int->Int->Int->β:=Ca.unc g
def ad2:PT St:=pS [sl 1 (aV false [(cD dB)]),sI 6,sI 8,sI 11,sl 59 (aV false [(cD dB)])] []
def tM {β:Type}(g:St->β):Bool->Int->Int->Int->Bool->β:=ad2.unc g
noncomputable abbrev Lk3:List bC:=⟨69,10,[⟨bt,ale cn⟩]⟩::⟨271,43,[⟨bt,Sc yP⟩]⟩::⟨250,14,[⟨aU,Yo oS⟩]⟩::⟨272,5,[⟨aU,VL oV⟩]⟩::⟨124,19,[⟨fZ,Qg yt⟩]⟩::⟨100,5,[⟨aU,Xf sj⟩]⟩::⟨121,5,[⟨aU,Up Jc⟩]⟩::⟨123,19,[⟨fZ,SW xq⟩]⟩::⟨68,26,[⟨fZ,ajf Lg⟩]⟩::⟨151,15,[⟨ba,VU yg⟩]⟩::⟨168,10,[⟨bt,Ub cG⟩]⟩::⟨198,25,[⟨aU,Tk eG⟩]⟩::⟨260,6,[⟨zR,Ua Ci⟩]⟩::⟨197,10,[⟨bt,Yg jy⟩]⟩::⟨84,15,[⟨akx,agH WZ⟩]⟩::⟨116,5,[⟨aU,U6 Ei⟩]⟩::⟨117,5,[⟨aU,U0 DB⟩]⟩::⟨148,11,[⟨kW,Vt DL⟩]⟩::⟨149,19,[⟨fZ,Wg yN⟩]⟩::⟨77,5,[⟨aU,alX ro⟩]⟩::⟨78,5,[⟨aU,aeu y8⟩]⟩::⟨79,5,[⟨aU,akX CM⟩]⟩::⟨76,19,[⟨fZ,adD OF⟩]⟩::⟨244,15,[⟨cZ,T2 mX⟩]⟩::⟨281,26,[⟨bt,UG jn⟩]⟩::⟨99,5,[⟨aU,akO OD⟩]⟩::⟨253,32,[⟨zZ,Uq xz⟩]⟩::⟨221,17,[⟨bt,Qk nh⟩]⟩::⟨251,21,[⟨Tf,Qy sr⟩]⟩::⟨217,17,[⟨ef,WR Kz⟩]⟩::⟨227,17,[⟨ef,R0 IT⟩]⟩::⟨105,33,[⟨YP,SC gC⟩]⟩::⟨136,25,[⟨YL,R8 n7⟩]⟩::⟨119,36,[⟨qN,Ya mR⟩]⟩::⟨45,18,[⟨als,ajZ Gp⟩]⟩::⟨7,68,[⟨eN,avQ afg⟩]⟩::⟨10,17,[⟨eN,aef yX⟩]⟩::Lk2
theorem ak3:bH Lk3 fun c=>bH c.l (ak Pg c.f c.nt):=⟨⟨ayN,trivial⟩,⟨ann,trivial⟩,⟨amq,trivial⟩,⟨as9,trivial⟩,⟨aoB,trivial⟩,⟨anB,trivial⟩,⟨apb,trivial⟩,⟨aoa,trivial⟩,⟨awG,trivial⟩,⟨an9,trivial⟩,⟨aml,trivial⟩,⟨anL,trivial⟩,⟨aqW,trivial⟩,⟨anP,trivial⟩,⟨awU,trivial⟩,⟨anU,trivial⟩,⟨atG,trivial⟩,⟨asE,trivial⟩,⟨aoz,trivial⟩,⟨azj,trivial⟩,⟨azh,trivial⟩,⟨ayF,trivial⟩,⟨azH,trivial⟩,⟨aqD,trivial⟩,⟨amF,trivial⟩,⟨aw7,trivial⟩,⟨auB,trivial⟩,⟨apd,trivial⟩,⟨aos,trivial⟩,⟨auf,trivial⟩,⟨asY,trivial⟩,⟨auU,trivial⟩,⟨aqC,trivial⟩,⟨ani,trivial⟩,⟨azm,trivial⟩,⟨aCD,trivial⟩,⟨ayl,trivial⟩,ak2⟩
def Ek3:aF:=aF.ofIO Lk3 bu io0
theorem ek3:Ek3.Ok Pg:=aF.ofIO_ok aN ak3
def qS:ah:=ah.sub [1,1,1,1,1,1,1,0,1,0,0] (emb zh)
def jM (α:Type)(d:Bool)(c a b:Int)(kn:Int->Int->Op α)(k1:Int->Int->Bool->Op α):Op α:=
 cK (decide (b < c))
 (cK d
 (cn α (w64 (a*a)) 1073741824
 (fun e=>kn e (w64 (b+1))))
 (dD α (w64 (a*a)) 1073741824
 (fun g=>kn g (w64 (b+1)))))
 (k1 a b (decide (b < c)))
def gF (α:Type)(a:Bool)(b:Int)(k1:Int->Int->Bool->Op α):Nat->Int->Int->Op α
 | 0,_,_=>none
 | n+1,c,d=>jM α a b c d (gF α a b k1 n) k1
def xS (α:Type)(a:Bool)(b:Int)(k1:Int->Int->Bool->Op α)(c d:Int):Op α:=gF α a b k1 aE c d
abbrev HD:Type 1:=(α:Type)->Bool->Int->(Int->Int->Bool->Op α)->Int->Int->Op α
def fc:HD:=sld xS
def Oo (v:HD)(α:Type)(K:KT α):Bool->Int->Int->Int->Op α:=fun a b c d=>v α a b (fun e g h=>tM (K (.exit 2)) a b e g h) c d
theorem af2 (α:Type)(K:KT α)(Kn:SK α)(a:Bool)(b c d:Int):Cw (fun σ=>az Pg Ek3 aO qS (bI (fun σ=>br pB σ Kn) K) σ) a b c d=jM α a b c d (fun c d=>Cw Kn a b c d) (fun e g h=>tM (K (.exit 2)) a b e g h):=by kernel_rfl
theorem aeH (α:Type)(K:KT α):∀ (n:Nat) (a:Bool) (b c d:Int),gF α a b (fun e g h=>tM (K (.exit 2)) a b e g h) n c d=Cw (aJ (az Pg Ek3 aO qS) pB K n) a b c d:=by
 intro n
 induction n with
 | zero=>intros;rfl
 | succ n ih=>intro a b c d;exact (congrArg (fun kn=>jM α a b c d kn (fun e g h=>tM (K (.exit 2)) a b e g h)) (funext fun c=>funext fun d=>ih a b c d)).trans (af2 α K (aJ (az Pg Ek3 aO qS) pB K n) a b c d).symm
theorem afn:∀ (α:Type) (K:KT α),Oo fc α K=Ca.unc fun σ=>aJ (az Pg Ek3 aO qS) pB K aE σ:=aZ (fun α K=>funext fun a=>funext fun b=>funext fun c=>funext fun d=>aeH α K aE a b c d)
def aaQ:ah:=ah.sub [1,1,1,1,1,1,0] (emb zh)
abbrev FA:Type 1:=(α:Type)->Bool->Int->Int->(Int->Op α)->Op α
def xV (α:Type)(e:Bool)(c d:Int)(k1:Int->Op α):Op α:=
 cK e
 (dD α c d
 (fun b=>cn α (w64 (b*b)) 2147483648
 (fun g=>k1 (w64 ((w64 (1073741824 - b))+g)))))
 (cn α c d
 (fun a=>dD α (w64 (a*a)) 2147483648
 (fun h=>cn α (w64 ((w64 (a*a))*a)) 6917529027641081856
 (fun i=>k1 (w64 ((w64 ((w64 (1073741824 - a))+h)) - i))))))
def eZ:FA:=sld xV
def MB (v:FA)(α:Type)(K:KT α):Bool->Int->Int->Int->Op α:=fun a b c d=>v α a b d (fun e=>ajK (K .normal) a c e)
theorem agy:∀ (α:Type) (K:KT α),MB eZ α K=ox.unc fun σ=>az Pg Ek3 aO aaQ K σ:=aZ (fun α K=>by kernel_rfl)
def qj:ah:=ah.sub [1,1,1,1,0,0,0] (emb zh)
def oh (α:Type)(b c a:Int)(kn:Int->Int->Op α)(k1:Int->Int->Bool->Op α):Op α:=
 cK (decide ((w64 (1048576*a)) < b))
 (kn (w64 (c+1)) (w64 (2*a)))
 (k1 c a (decide ((w64 (1048576*a)) < b)))
def lU (α:Type)(a:Int)(k1:Int->Int->Bool->Op α):Nat->Int->Int->Op α
 | 0,_,_=>none
 | n+1,b,c=>oh α a b c (lU α a k1 n) k1
def xy (α:Type)(a:Int)(k1:Int->Int->Bool->Op α)(b c:Int):Op α:=lU α a k1 aE b c
def oI:gp:=sld xy
def LK (v:gp)(α:Type)(K:KT α):Bool->Int->Int->Int->Op α:=fun b a c d=>v α a (fun e g h=>tp (K (.exit 0)) b a e g h) c d
theorem alI (α:Type)(K:KT α)(Kn:SK α)(d:Bool)(a b c:Int):BU (fun σ=>az Pg Ek3 aO qj (bI (fun σ=>br oP σ Kn) K) σ) d a b c=oh α a b c (fun b c=>BU Kn d a b c) (fun e g h=>tp (K (.exit 0)) d a e g h):=by kernel_rfl
theorem afz (α:Type)(K:KT α):∀ (n:Nat) (d:Bool) (a b c:Int),lU α a (fun e g h=>tp (K (.exit 0)) d a e g h) n b c=BU (aJ (az Pg Ek3 aO qj) oP K n) d a b c:=by
 intro n
 induction n with
 | zero=>intros;rfl
 | succ n ih=>intro d a b c;exact (congrArg (fun kn=>oh α a b c kn (fun e g h=>tp (K (.exit 0)) d a e g h)) (funext fun b=>funext fun c=>ih d a b c)).trans (alI α K (aJ (az Pg Ek3 aO qj) oP K n) d a b c).symm
theorem alG:∀ (α:Type) (K:KT α),LK oI α K=ox.unc fun σ=>aJ (az Pg Ek3 aO qj) oP K aE σ:=aZ (fun α K=>funext fun a=>funext fun b=>funext fun c=>funext fun d=>afz α K aE a b c d)
def aiH:ah:=ah.sub [1,1,0] (emb zh)
abbrev qH:Type 1:=(α:Type)->Int->Bool->(Int->Op α)->Op α
def HS (α:Type)(a:Int)(b:Bool)(k1:Int->Op α):Op α:=
 cK b
 (dD α (w64 ((w64 (256*a))*62831853)) 10000000
 (fun c=>k1 c))
 (cn α (w64 ((w64 (256*a))*62831854)) 10000000
 (fun d=>k1 d))
def oc:qH:=sld HS
def MG (v:qH)(α:Type)(K:KT α):Int->Bool->Op α:=fun b a=>v α b a (fun c=>ajP (K .normal) a c)
theorem akZ:∀ (α:Type) (K:KT α),MG oc α K=By.unc fun σ=>az Pg Ek3 aO aiH K σ:=aZ (fun α K=>by kernel_rfl)
def JK (α:Type)(c:Int)(a:Bool)(k1:Int->Op α):Op α:=
 oc α c a
 (fun b=>oI α b
 (fun d e i=>eZ α a b e
 (fun g=>fc α a d
 (fun h j l=>k1 h) g 0)) 0 1)
def mz:qH:=sld JK
def Wo:PT (List DV):=pA [vI,pV false [dB]]
def Vc (v:qH)(α:Type)(k:RT α):Int->Bool->Op α:=fun a b=>v α a b (fun c=>aR k c)
def asZ:ah:=(ah.put (.m [⟨By,MG oc⟩]) [1,1] (ah.put (.m [⟨ox,LK oI⟩]) [1,1,1,1,0,0] (ah.put (.m [⟨ox,MB eZ⟩]) [1,1,1,1,1,1] (ah.put (.m [⟨Ca,Oo fc⟩]) [1,1,1,1,1,1,1,0,1,0] (emb zh)))))
theorem anq:ak Pg 287 72 ⟨Wo,Vc mz⟩:=iZ ek3 (ag Tryz.func287 (by kernel_rfl)) aO asZ ((am _ _).trans ((am _ _).trans ((am _ _).trans ((am _ _).trans (aA _))))) (aM (by kernel_rfl) (aW (td:=oP) (by kernel_rfl) (aM (by kernel_rfl) (aW (td:=pB) (by kernel_rfl) (aD zh) ⟨afn,trivial⟩) ⟨agy,trivial⟩) ⟨alG,trivial⟩) ⟨akZ,trivial⟩) fun _ _=>by kernel_rfl
end
end Go.AM.K
