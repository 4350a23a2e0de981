/- Printed by KGen. -/
import Derived.Test.YtffcelhcekillaaGreatRa
namespace Go.AM.K
open Go.Proofs
set_option maxRecDepth 100000
set_option linter.unusedVariables false
noncomputable section
def gk:SG:=[(24,iT),(27,iT),(36,iT),(39,iT),(47,iT),(49,iT),(58,iS 2),(67,iT),(69,iT),(72,iT),(74,iT),(96,iS 2),(101,iS 2),(103,iS 2),(104,iS 2)]
def aF2:TG:=[tT 0 [0,2],tT 1 [0,2],tT 2 [0,2,19],tT 3 [2,3],tT 4 [2],tT 5 [0,2,31],tT 6 [2,4],tT 7 [2],tT 8 [0,2,42],tT 9 [2,5],tT 10 [2],tT 11 [0,2,6],tT 12 [0,2,6,7,8],tT 13 [0,2,7,8,9,10],tT 14 [0,2,7,8,9,10,57],tT 15 [2],tT 16 [0,2,7,8,9,10,61],tT 17 [0,2,7,8,9,10,11],tT 18 [0,2,7,8,9,10,11,12,13],tT 19 [0,2,7,8,9,10,11,12,13,14],tT 20 [0,2,7,8,9,10,11,15],tT 21 [0,2,7,8,9,10,11,15,95],tT 22 [2],tT 23 [0,2,7,8,9,10,11,15,99],tT 24 [0,2,7,8,9,10],tT 25 [0,2,7,8,9,10],tT 26 [2]]
def aBE:TG:=[tT 16 [0,2,7,8,9,10]]
def lz:ap:=aw Pg Tryz.f286 aF2 aBE
def cd:OT:=tdC (ag.sub [1,1,1,1,1,1,1,1,1,0,0] (emb lz))
def gz:PT St:=pS [sI 0,sP 2,sI 7,sI 8,sP 9,sP 10] [au 2 [xI,xI],au 9 [xI,xI],au 10 [xI,xI]]
def eI {β:Type}(g:St->β):I9 β:=gz.unc g
def adK:PT St:=pS [sP 2] [au 2 [xI,xI]]
def de {β:Type}(g:St->β):Int->Int->β:=adK.unc g
def ai2:PT St:=pS [sI 0,sP 2,sI 7,sI 8,sP 9,sP 10,sl 61 (aV false [(cD dB)])] [au 2 [xI,xI],au 9 [xI,xI],au 10 [xI,xI]]
def db {β:Type}(g:St->β):Int->Int->Int->Bool->I6 β:=ai2.unc g
def qh:ag:=ag.sub [1,1,1,1,1,1,1,1,1,0,0,0] (emb lz)
def B8 (α:Type)(i h a c d e g:Int)(kn:I6 (Op α))(k1:Int->Int->Op α)(k2:Int->Int->Bool->I4 (Op α)):Op α:=
 cK (i != a)
 (dj α (w64 ((w64 ((w64 (c+e))*(w64 (c+e))))+(w64 ((w64 (d+g))*(w64 (d+g))))))
 (fun b=>gK (b != 0) (gK (b != 0) (cK ((w64 (Int.tdiv (w64 (h+a)) 2)) == i)
 (k1 (w64 (Int.tdiv (w64 ((w64 (c+e))*67108864)) b)) (w64 (Int.tdiv (w64 ((w64 (d+g))*67108864)) b)))
 (cK (decide ((w64 (Int.tdiv (w64 (h+a)) 2)) < i))
 (kn (w64 (Int.tdiv (w64 (h+a)) 2)) a (w64 (Int.tdiv (w64 ((w64 (c+e))*67108864)) b)) (w64 (Int.tdiv (w64 ((w64 (d+g))*67108864)) b)) e g)
 (kn h (w64 (Int.tdiv (w64 (h+a)) 2)) c d (w64 (Int.tdiv (w64 ((w64 (c+e))*67108864)) b)) (w64 (Int.tdiv (w64 ((w64 (d+g))*67108864)) b))))))))
 (k2 h a (i != a) c d e g)
def l6 (α:Type)(a:Int)(k1:Int->Int->Op α)(k2:Int->Int->Bool->I4 (Op α)):Nat->I6 (Op α)
 | 0,_,_,_,_,_,_=>none
 | n+1,b,c,d,e,g,h=>B8 α a b c d e g h (l6 α a k1 k2 n) k1 k2
def EY (α:Type)(a:Int)(k1:Int->Int->Op α)(k2:Int->Int->Bool->I4 (Op α))(b c d e g h:Int):Op α:=l6 α a k1 k2 aG b c d e g h
abbrev gl:Type 1:=(α:Type)->Int->(Int->Int->Op α)->(Int->Int->Bool->I4 (Op α))->I6 (Op α)
def vd:gl:=sld EY
def Ld (v:gl)(α:Type)(K:KT α):I9 (Op α):=fun c d e g h i j l m=>v α c (fun a b=>de (K .ret) a b) (fun a b o p q r s=>db (K (.exit 0)) c a b o g h p q r s) d e i j l m
theorem ajW (α:Type)(K:KT α)(Kn:SK α)(a b c i j d e g h:Int):eI (fun σ=>az Pg Ek1 gk qh (bM (fun σ=>br cd σ Kn) K) σ) a b c i j d e g h=B8 α a b c d e g h (fun b c d e g h=>eI Kn a b c i j d e g h) (fun l m=>de (K .ret) l m) (fun l m o p q r s=>db (K (.exit 0)) a l m o i j p q r s):=by kernel_rfl
theorem afX (α:Type)(K:KT α):∀ (n:Nat) (a b c l m d e g h:Int),l6 α a (fun i j=>de (K .ret) i j) (fun i j o p q r s=>db (K (.exit 0)) a i j o l m p q r s) n b c d e g h=eI (aK (az Pg Ek1 gk qh) cd K n) a b c l m d e g h:=by
 intro n
 induction n with
 | zero=>intros;rfl
 | succ n ih=>intro a b c l m d e g h;exact (congrArg (fun kn=>B8 α a b c d e g h kn (fun i j=>de (K .ret) i j) (fun i j o p q r s=>db (K (.exit 0)) a i j o l m p q r s)) (funext fun b=>funext fun c=>funext fun d=>funext fun e=>funext fun g=>funext fun h=>ih a b c l m d e g h)).trans (ajW α K (aK (az Pg Ek1 gk qh) cd K n) a b c l m d e g h).symm
theorem aeS:∀ (α:Type) (K:KT α),Ld vd α K=gz.unc fun σ=>aK (az Pg Ek1 gk qh) cd K aG σ:=aY (fun α K=>funext fun a=>funext fun b=>funext fun c=>funext fun d=>funext fun e=>funext fun g=>funext fun h=>funext fun i=>funext fun j=>afX α K aG a b c d e g h i j)
abbrev ea:Type 1:=(α:Type)->Int->(Int->Int->Op α)->Op α
def X3 (α:Type)(c:Int)(k1:Int->Int->Op α):Op α:=
 kK α c 4194304
 (fun a=>cK (decide (2097152<=a))
 (none)
 (cK (decide (1048576<=a))
 (none)
 (cK (decide (524288 < a))
 (none)
 (dj α 2251799813685248
 (fun b=>cK (a == 0)
 (k1 67108864 0)
 (vd α a
 (fun d e=>k1 d e)
 (fun i j l m o g h=>k1 g h) 0 524288 67108864 0 b b))))))
def rV:ea:=sld X3
def Yq (v:ea)(α:Type)(k:RT α):Int->Op α:=fun a=>v α a (fun b c=>bt k b c)
def ao8:ag:=(ag.put (.m [⟨gz,Ld vd⟩]) [1,1,1,1,1,1,1,1,1,0,0] (emb lz))
theorem arB:ak Pg 286 105 ⟨aU,Yq rV⟩:=iZ ek1 (ah Tryz.func286 (by kernel_rfl)) gk ao8 ((an _ _).trans (aA _)) (aZ (td:=cd) (by kernel_rfl) (aD lz) ⟨aeS,trivial⟩) fun _ _=>by kernel_rfl
noncomputable abbrev Lk2:List bE:=⟨286,105,[⟨aU,Yq rV⟩]⟩::⟨102,9,[⟨ba,YL dG⟩]⟩::⟨104,33,[⟨qW,Y6 jC⟩]⟩::Lk1
theorem ak2:bJ Lk2 fun c=>bJ c.l (ak Pg c.f c.nt):=⟨⟨arB,trivial⟩,⟨aqf,trivial⟩,⟨aqH,trivial⟩,ak1⟩
def Ek2:aE:=aE.ofIO Lk2 bw io0
theorem ek2:Ek2.Ok Pg:=aE.ofIO_ok aO ak2
def qA:ag:=ag.sub [1,1,1,1,1,1,1,1,1,0,0,0] (emb lz)
def Dn (α:Type)(i h a c d e g:Int)(kn:I6 (Op α))(k1:Int->Int->Op α)(k2:Int->Int->Bool->I4 (Op α)):Op α:=
 cK (i != a)
 (dj α (w64 ((w64 ((w64 (c+e))*(w64 (c+e))))+(w64 ((w64 (d+g))*(w64 (d+g))))))
 (fun b=>gK (b != 0) (gK (b != 0) (cK ((w64 (Int.tdiv (w64 (h+a)) 2)) == i)
 (k1 (w64 (Int.tdiv (w64 ((w64 (c+e))*67108864)) b)) (w64 (Int.tdiv (w64 ((w64 (d+g))*67108864)) b)))
 (cK (decide ((w64 (Int.tdiv (w64 (h+a)) 2)) < i))
 (kn (w64 (Int.tdiv (w64 (h+a)) 2)) a (w64 (Int.tdiv (w64 ((w64 (c+e))*67108864)) b)) (w64 (Int.tdiv (w64 ((w64 (d+g))*67108864)) b)) e g)
 (kn h (w64 (Int.tdiv (w64 (h+a)) 2)) c d (w64 (Int.tdiv (w64 ((w64 (c+e))*67108864)) b)) (w64 (Int.tdiv (w64 ((w64 (d+g))*67108864)) b))))))))
 (k2 h a (i != a) c d e g)
def ma (α:Type)(a:Int)(k1:Int->Int->Op α)(k2:Int->Int->Bool->I4 (Op α)):Nat->I6 (Op α)
 | 0,_,_,_,_,_,_=>none
 | n+1,b,c,d,e,g,h=>Dn α a b c d e g h (ma α a k1 k2 n) k1 k2
def Fb (α:Type)(a:Int)(k1:Int->Int->Op α)(k2:Int->Int->Bool->I4 (Op α))(b c d e g h:Int):Op α:=ma α a k1 k2 aG b c d e g h
def ud:gl:=sld Fb
def Ma (v:gl)(α:Type)(K:KT α):I9 (Op α):=fun c d e g h i j l m=>v α c (fun a b=>de (K .ret) a b) (fun a b o p q r s=>db (K (.exit 0)) c a b o g h p q r s) d e i j l m
theorem adr (α:Type)(K:KT α)(Kn:SK α)(a b c i j d e g h:Int):eI (fun σ=>az Pg Ek2 gk qA (bM (fun σ=>br cd σ Kn) K) σ) a b c i j d e g h=Dn α a b c d e g h (fun b c d e g h=>eI Kn a b c i j d e g h) (fun l m=>de (K .ret) l m) (fun l m o p q r s=>db (K (.exit 0)) a l m o i j p q r s):=by kernel_rfl
theorem akW (α:Type)(K:KT α):∀ (n:Nat) (a b c l m d e g h:Int),ma α a (fun i j=>de (K .ret) i j) (fun i j o p q r s=>db (K (.exit 0)) a i j o l m p q r s) n b c d e g h=eI (aK (az Pg Ek2 gk qA) cd K n) a b c l m d e g h:=by
 intro n
 induction n with
 | zero=>intros;rfl
 | succ n ih=>intro a b c l m d e g h;exact (congrArg (fun kn=>Dn α a b c d e g h kn (fun i j=>de (K .ret) i j) (fun i j o p q r s=>db (K (.exit 0)) a i j o l m p q r s)) (funext fun b=>funext fun c=>funext fun d=>funext fun e=>funext fun g=>funext fun h=>ih a b c l m d e g h)).trans (adr α K (aK (az Pg Ek2 gk qA) cd K n) a b c l m d e g h).symm
theorem agl:∀ (α:Type) (K:KT α),Ma ud α K=gz.unc fun σ=>aK (az Pg Ek2 gk qA) cd K aG σ:=aY (fun α K=>funext fun a=>funext fun b=>funext fun c=>funext fun d=>funext fun e=>funext fun g=>funext fun h=>funext fun i=>funext fun j=>akW α K aG a b c d e g h i j)
def Ul (α:Type)(c:Int)(k1:Int->Int->Op α):Op α:=
 kK α c 4194304
 (fun a=>cK (decide (2097152<=a))
 (rV α (w64 (a - 2097152))
 (fun d e=>k1 (w64 (0 - d)) (w64 (0 - e))))
 (cK (decide (1048576<=a))
 (rV α (w64 (a - 1048576))
 (fun g h=>k1 (w64 (0 - h)) g))
 (cK (decide (524288 < a))
 (rV α (w64 (1048576 - a))
 (fun i j=>k1 j i))
 (dj α 2251799813685248
 (fun b=>cK (a == 0)
 (k1 67108864 0)
 (ud α a
 (fun l m=>k1 l m)
 (fun q r s t w o p=>k1 o p) 0 524288 67108864 0 b b))))))
def rT:ea:=sld Ul
def Sm (v:ea)(α:Type)(k:RT α):Int->Op α:=fun a=>v α a (fun b c=>bt k b c)
def atW:ag:=(ag.put (.m [⟨gz,Ma ud⟩]) [1,1,1,1,1,1,1,1,1,0,0] (emb lz))
theorem apt:ak Pg 286 105 ⟨aU,Sm rT⟩:=iZ ek2 (ah Tryz.func286 (by kernel_rfl)) gk atW ((an _ _).trans (aA _)) (aZ (td:=cd) (by kernel_rfl) (aD lz) ⟨agl,trivial⟩) fun _ _=>by kernel_rfl
def CR:aE:=aE.ofIO (⟨286,105,[⟨aU,Sm rT⟩]⟩::Lk2) bw io0
theorem amr:CR.Ok Pg:=aE.ofIO_ok aO ⟨⟨apt,trivial⟩,ak2⟩
def pY:ag:=ag.sub [1,1,1,1,1,1,1,1,1,0,0,0] (emb lz)
def Ed (α:Type)(i h a c d e g:Int)(kn:I6 (Op α))(k1:Int->Int->Op α)(k2:Int->Int->Bool->I4 (Op α)):Op α:=
 cK (i != a)
 (dj α (w64 ((w64 ((w64 (c+e))*(w64 (c+e))))+(w64 ((w64 (d+g))*(w64 (d+g))))))
 (fun b=>gK (b != 0) (gK (b != 0) (cK ((w64 (Int.tdiv (w64 (h+a)) 2)) == i)
 (k1 (w64 (Int.tdiv (w64 ((w64 (c+e))*67108864)) b)) (w64 (Int.tdiv (w64 ((w64 (d+g))*67108864)) b)))
 (cK (decide ((w64 (Int.tdiv (w64 (h+a)) 2)) < i))
 (kn (w64 (Int.tdiv (w64 (h+a)) 2)) a (w64 (Int.tdiv (w64 ((w64 (c+e))*67108864)) b)) (w64 (Int.tdiv (w64 ((w64 (d+g))*67108864)) b)) e g)
 (kn h (w64 (Int.tdiv (w64 (h+a)) 2)) c d (w64 (Int.tdiv (w64 ((w64 (c+e))*67108864)) b)) (w64 (Int.tdiv (w64 ((w64 (d+g))*67108864)) b))))))))
 (k2 h a (i != a) c d e g)
def lB (α:Type)(a:Int)(k1:Int->Int->Op α)(k2:Int->Int->Bool->I4 (Op α)):Nat->I6 (Op α)
 | 0,_,_,_,_,_,_=>none
 | n+1,b,c,d,e,g,h=>Ed α a b c d e g h (lB α a k1 k2 n) k1 k2
def HH (α:Type)(a:Int)(k1:Int->Int->Op α)(k2:Int->Int->Bool->I4 (Op α))(b c d e g h:Int):Op α:=lB α a k1 k2 aG b c d e g h
def ve:gl:=sld HH
def KK (v:gl)(α:Type)(K:KT α):I9 (Op α):=fun c d e g h i j l m=>v α c (fun a b=>de (K .ret) a b) (fun a b o p q r s=>db (K (.exit 0)) c a b o g h p q r s) d e i j l m
theorem afI (α:Type)(K:KT α)(Kn:SK α)(a b c i j d e g h:Int):eI (fun σ=>az Pg CR gk pY (bM (fun σ=>br cd σ Kn) K) σ) a b c i j d e g h=Ed α a b c d e g h (fun b c d e g h=>eI Kn a b c i j d e g h) (fun l m=>de (K .ret) l m) (fun l m o p q r s=>db (K (.exit 0)) a l m o i j p q r s):=by kernel_rfl
theorem adC (α:Type)(K:KT α):∀ (n:Nat) (a b c l m d e g h:Int),lB α a (fun i j=>de (K .ret) i j) (fun i j o p q r s=>db (K (.exit 0)) a i j o l m p q r s) n b c d e g h=eI (aK (az Pg CR gk pY) cd K n) a b c l m d e g h:=by
 intro n
 induction n with
 | zero=>intros;rfl
 | succ n ih=>intro a b c l m d e g h;exact (congrArg (fun kn=>Ed α a b c d e g h kn (fun i j=>de (K .ret) i j) (fun i j o p q r s=>db (K (.exit 0)) a i j o l m p q r s)) (funext fun b=>funext fun c=>funext fun d=>funext fun e=>funext fun g=>funext fun h=>ih a b c l m d e g h)).trans (afI α K (aK (az Pg CR gk pY) cd K n) a b c l m d e g h).symm
theorem aeW:∀ (α:Type) (K:KT α),KK ve α K=gz.unc fun σ=>aK (az Pg CR gk pY) cd K aG σ:=aY (fun α K=>funext fun a=>funext fun b=>funext fun c=>funext fun d=>funext fun e=>funext fun g=>funext fun h=>funext fun i=>funext fun j=>adC α K aG a b c d e g h i j)
def ZA (α:Type)(c:Int)(k1:Int->Int->Op α):Op α:=
 kK α c 4194304
 (fun a=>cK (decide (2097152<=a))
 (rT α (w64 (a - 2097152))
 (fun d e=>k1 (w64 (0 - d)) (w64 (0 - e))))
 (cK (decide (1048576<=a))
 (rT α (w64 (a - 1048576))
 (fun g h=>k1 (w64 (0 - h)) g))
 (cK (decide (524288 < a))
 (rT α (w64 (1048576 - a))
 (fun i j=>k1 j i))
 (dj α 2251799813685248
 (fun b=>cK (a == 0)
 (k1 67108864 0)
 (ve α a
 (fun l m=>k1 l m)
 (fun q r s t w o p=>k1 o p) 0 524288 67108864 0 b b))))))
def sw:ea:=sld ZA
def RB (v:ea)(α:Type)(k:RT α):Int->Op α:=fun a=>v α a (fun b c=>bt k b c)
def atI:ag:=(ag.put (.m [⟨gz,KK ve⟩]) [1,1,1,1,1,1,1,1,1,0,0] (emb lz))
theorem aoQ:ak Pg 286 105 ⟨aU,RB sw⟩:=iZ amr (ah Tryz.func286 (by kernel_rfl)) gk atI ((an _ _).trans (aA _)) (aZ (td:=cd) (by kernel_rfl) (aD lz) ⟨aeW,trivial⟩) fun _ _=>by kernel_rfl
def Bu:aE:=aE.ofIO (⟨286,105,[⟨aU,RB sw⟩]⟩::Lk2) bw io0
theorem amB:Bu.Ok Pg:=aE.ofIO_ok aO ⟨⟨aoQ,trivial⟩,ak2⟩
def qQ:ag:=ag.sub [1,1,1,1,1,1,1,1,1,0,0,0] (emb lz)
def oR (α:Type)(i h a c d e g:Int)(kn:I6 (Op α))(k1:Int->Int->Op α)(k2:Int->Int->Bool->I4 (Op α)):Op α:=
 cK (i != a)
 (dj α (w64 ((w64 ((w64 (c+e))*(w64 (c+e))))+(w64 ((w64 (d+g))*(w64 (d+g))))))
 (fun b=>gK (b != 0) (gK (b != 0) (cK ((w64 (Int.tdiv (w64 (h+a)) 2)) == i)
 (k1 (w64 (Int.tdiv (w64 ((w64 (c+e))*67108864)) b)) (w64 (Int.tdiv (w64 ((w64 (d+g))*67108864)) b)))
 (cK (decide ((w64 (Int.tdiv (w64 (h+a)) 2)) < i))
 (kn (w64 (Int.tdiv (w64 (h+a)) 2)) a (w64 (Int.tdiv (w64 ((w64 (c+e))*67108864)) b)) (w64 (Int.tdiv (w64 ((w64 (d+g))*67108864)) b)) e g)
 (kn h (w64 (Int.tdiv (w64 (h+a)) 2)) c d (w64 (Int.tdiv (w64 ((w64 (c+e))*67108864)) b)) (w64 (Int.tdiv (w64 ((w64 (d+g))*67108864)) b))))))))
 (k2 h a (i != a) c d e g)
def cN (α:Type)(a:Int)(k1:Int->Int->Op α)(k2:Int->Int->Bool->I4 (Op α)):Nat->I6 (Op α)
 | 0,_,_,_,_,_,_=>none
 | n+1,b,c,d,e,g,h=>oR α a b c d e g h (cN α a k1 k2 n) k1 k2
def Hv (α:Type)(a:Int)(k1:Int->Int->Op α)(k2:Int->Int->Bool->I4 (Op α))(b c d e g h:Int):Op α:=cN α a k1 k2 aG b c d e g h
def wY:gl:=sld Hv
def Oe (v:gl)(α:Type)(K:KT α):I9 (Op α):=fun c d e g h i j l m=>v α c (fun a b=>de (K .ret) a b) (fun a b o p q r s=>db (K (.exit 0)) c a b o g h p q r s) d e i j l m
theorem ajk (α:Type)(K:KT α)(Kn:SK α)(a b c i j d e g h:Int):eI (fun σ=>az Pg Bu gk qQ (bM (fun σ=>br cd σ Kn) K) σ) a b c i j d e g h=oR α a b c d e g h (fun b c d e g h=>eI Kn a b c i j d e g h) (fun l m=>de (K .ret) l m) (fun l m o p q r s=>db (K (.exit 0)) a l m o i j p q r s):=by kernel_rfl
theorem ahy (α:Type)(K:KT α):∀ (n:Nat) (a b c l m d e g h:Int),cN α a (fun i j=>de (K .ret) i j) (fun i j o p q r s=>db (K (.exit 0)) a i j o l m p q r s) n b c d e g h=eI (aK (az Pg Bu gk qQ) cd K n) a b c l m d e g h:=by
 intro n
 induction n with
 | zero=>intros;rfl
 | succ n ih=>intro a b c l m d e g h;exact (congrArg (fun kn=>oR α a b c d e g h kn (fun i j=>de (K .ret) i j) (fun i j o p q r s=>db (K (.exit 0)) a i j o l m p q r s)) (funext fun b=>funext fun c=>funext fun d=>funext fun e=>funext fun g=>funext fun h=>ih a b c l m d e g h)).trans (ajk α K (aK (az Pg Bu gk qQ) cd K n) a b c l m d e g h).symm
theorem aeJ:∀ (α:Type) (K:KT α),Oe wY α K=gz.unc fun σ=>aK (az Pg Bu gk qQ) cd K aG σ:=aY (fun α K=>funext fun a=>funext fun b=>funext fun c=>funext fun d=>funext fun e=>funext fun g=>funext fun h=>funext fun i=>funext fun j=>ahy α K aG a b c d e g h i j)
def Xu (α:Type)(c:Int)(k1:Int->Int->Op α):Op α:=
 kK α c 4194304
 (fun a=>cK (decide (2097152<=a))
 (sw α (w64 (a - 2097152))
 (fun d e=>k1 (w64 (0 - d)) (w64 (0 - e))))
 (cK (decide (1048576<=a))
 (sw α (w64 (a - 1048576))
 (fun g h=>k1 (w64 (0 - h)) g))
 (cK (decide (524288 < a))
 (sw α (w64 (1048576 - a))
 (fun i j=>k1 j i))
 (dj α 2251799813685248
 (fun b=>cK (a == 0)
 (k1 67108864 0)
 (wY α a
 (fun l m=>k1 l m)
 (fun q r s t w o p=>k1 o p) 0 524288 67108864 0 b b))))))
def CE:ea:=sld Xu
def WZ (v:ea)(α:Type)(k:RT α):Int->Op α:=fun a=>v α a (fun b c=>bt k b c)
def aq8:ag:=(ag.put (.m [⟨gz,Oe wY⟩]) [1,1,1,1,1,1,1,1,1,0,0] (emb lz))
theorem aoM:ak Pg 286 105 ⟨aU,WZ CE⟩:=iZ amB (ah Tryz.func286 (by kernel_rfl)) gk aq8 ((an _ _).trans (aA _)) (aZ (td:=cd) (by kernel_rfl) (aD lz) ⟨aeJ,trivial⟩) fun _ _=>by kernel_rfl
def aGQ:TG:=[tT 0 [1],tT 1 [2]]
def aH6:ap:=aw Pg Tryz.f244 aGQ aC
def UA (α:Type)(a b:Int)(k1:Int->Op α):Op α:=
 dj α (w64 ((w64 (a*a))+(w64 (b*b))))
 (fun c=>k1 c)
def ml:bz:=sld UA
def PZ (v:bz)(α:Type)(k:RT α):Int->Int->Int->Op α:=fun a b d=>v α a b (fun c=>aQ k c)
theorem aq6:ak Pg 244 15 ⟨cX,PZ ml⟩:=iP ek2 aH6 (ah Tryz.func244 (by kernel_rfl)) ajD fun _ _=>by kernel_rfl
def aBq:TG:=[tT 0 [0],tT 1 [0,3],tT 2 [3,10],tT 3 [3],tT 4 [2]]
def aCQ:ap:=aw Pg Tryz.f250 aBq aC
def KD (α:Type)(b:Int)(k1:Int->Op α):Op α:=
 dj α b
 (fun a=>cK (decide ((w64 (a*a)) < b))
 (k1 (w64 (a+1)))
 (k1 a))
def n6:ch:=sld KD
def V0 (v:ch)(α:Type)(k:RT α):Int->Op α:=fun a=>v α a (fun b=>aQ k b)
theorem asW:ak Pg 250 14 ⟨aU,V0 n6⟩:=iP ek2 aCQ (ah Tryz.func250 (by kernel_rfl)) aN fun _ _=>by kernel_rfl
def aCe:TG:=[tT 0 [0,1],tT 1 [0,1,6],tT 2 [1,6,7],tT 3 [6,7,20],tT 4 [4,5],tT 5 [4,5]]
def aBZ:ap:=aw Pg Tryz.f281 aCe aC
def aan:PT (List RV):=pRs [wI,pR false [rD dB]]
def qo {β:Type}(g:List RV->β):Int->Bool->β:=aan.unc g
abbrev qT:Type 1:=(α:Type)->Int->Int->(Int->Bool->Op α)->Op α
def KC (α:Type)(c a:Int)(k1:Int->Bool->Op α):Op α:=
 dC α c a
 (fun b=>cK (decide ((w64 (a - (w64 (c - (w64 (b*a))))))<=(w64 (c - (w64 (b*a))))))
 (k1 (w64 (b+1)) true)
 (k1 b ((w64 (c - (w64 (b*a)))) != 0)))
def jn:qT:=sld KC
def W8 (v:qT)(α:Type)(k:RT α):Int->Int->Op α:=fun a b=>v α a b (fun c d=>qo k c d)
theorem arQ:ak Pg 281 26 ⟨bq,W8 jn⟩:=iP ek2 aBZ (ah Tryz.func281 (by kernel_rfl)) aN fun _ _=>by kernel_rfl
def LS:SG:=[(13,iT),(16,iT),(18,iT),(20,iS 3)]
def aDK:TG:=[tT 0 [1,2,4],tT 1 [1,2,4,5],tT 2 [1,2,4,5,9],tT 4 [1,2,4,5],tT 3 [1,2,4,5],tT 5 [4]]
def aC1:TG:=[tT 2 [1,2,4,5]]
def VS:ap:=aw Pg Tryz.f251 aDK aC1
def sG:OT:=tdC (ag.sub [1,0,1,0] (emb VS))
def DF:PT St:=pS [sI 1,sP 2,sP 4,sI 5] [au 2 (xs 3),au 4 (xs 3)]
def EC {β:Type}(g:St->β):I8 β:=DF.unc g
def ady:PT St:=pS [sI 1,sP 2,sP 4,sI 5,sl 9 (aV false [(cD dB)])] [au 2 (xs 3),au 4 (xs 3)]
def ui {β:Type}(g:St->β):Int->Int->Bool->I6 β:=ady.unc g
def tP:ag:=ag.sub [1,0,1,0,0] (emb VS)
def oU (α:Type)(e a b c:Int)(kn:Int->Int->Int->Op α)(k1:Int->Bool->Int->Int->Op α):Op α:=
 kK α e 4
 (fun d=>cK (decide (a < d))
 (kn (w64 (a+1)) (w64 (0 - c)) b)
 (k1 a (decide (a < d)) b c))
def pG (α:Type)(a:Int)(k1:Int->Bool->Int->Int->Op α):Nat->Int->Int->Int->Op α
 | 0,_,_,_=>none
 | n+1,b,c,d=>oU α a b c d (pG α a k1 n) k1
def Fa (α:Type)(a:Int)(k1:Int->Bool->Int->Int->Op α)(b c d:Int):Op α:=pG α a k1 aG b c d
def uQ:qD:=sld Fa
def N2 (v:qD)(α:Type)(K:KT α):I8 (Op α):=fun a b c d e g h i=>v α a (fun j l m o=>ui (K (.exit 0)) a j l m o e g h i) b c d
theorem acY (α:Type)(K:KT α)(Kn:SK α)(a b c d e g h i:Int):EC (fun σ=>az Pg Ek2 LS tP (bM (fun σ=>br sG σ Kn) K) σ) a b c d e g h i=oU α a b c d (fun b c d=>EC Kn a b c d e g h i) (fun j l m o=>ui (K (.exit 0)) a j l m o e g h i):=by kernel_rfl
theorem alW (α:Type)(K:KT α):∀ (n:Nat) (a b c d e g h i:Int),pG α a (fun j l m o=>ui (K (.exit 0)) a j l m o e g h i) n b c d=EC (aK (az Pg Ek2 LS tP) sG K n) a b c d e g h i:=by
 intro n
 induction n with
 | zero=>intros;rfl
 | succ n ih=>intro a b c d e g h i;exact (congrArg (fun kn=>oU α a b c d kn (fun j l m o=>ui (K (.exit 0)) a j l m o e g h i)) (funext fun b=>funext fun c=>funext fun d=>ih a b c d e g h i)).trans (acY α K (aK (az Pg Ek2 LS tP) sG K n) a b c d e g h i).symm
theorem aez:∀ (α:Type) (K:KT α),N2 uQ α K=DF.unc fun σ=>aK (az Pg Ek2 LS tP) sG K aG σ:=aY (fun α K=>funext fun a=>funext fun b=>funext fun c=>funext fun d=>funext fun e=>funext fun g=>funext fun h=>funext fun i=>alW α K aG a b c d e g h i)
def RN (α:Type)(a b c:Int)(k1:Int->Int->Op α):Op α:=
 uQ α c
 (fun g h d e=>k1 d e) 0 a b
def rA:fU:=sld RN
def Va:PT (List DV):=pA [pV true [(dI .i64),(dI .i64),(dI .i64)],vI]
def Ya (v:fU)(α:Type)(k:RT α):I4 (Op α):=fun a b c d=>v α a b d (fun e g=>yn k e g c)
def apA:ag:=(ag.put (.m [⟨DF,N2 uQ⟩]) [1,0,1,0] (emb VS))
theorem aol:ak Pg 251 21 ⟨Va,Ya rA⟩:=iZ ek2 (ah Tryz.func251 (by kernel_rfl)) LS apA ((an _ _).trans (aA _)) (aZ (td:=sG) (by kernel_rfl) (aD VS) ⟨aez,trivial⟩) fun _ _=>by kernel_rfl
def aD4:TG:=[tT 0 [0,1],tT 1 [0,1,6],tT 2 [1,6,7],tT 3 [1,6,7,22],tT 4 [4,5],tT 5 [1,6,7,8],tT 6 [1,6,7,8,26],tT 8 [1,6,7,8],tT 9 [1,6,7,8,35],tT 10 [1,6,7,8],tT 7 [1,6,7,8],tT 11 [4,5]]
def aAg:TG:=[tT 6 [1,6,7,8]]
def SB:ap:=aw Pg Tryz.f271 aD4 aAg
def oA:OT:=tdC (ag.sub [1,1,1,1,0,1,0] (emb SB))
def EK:PT St:=pS [sI 1,sI 6,sI 7,sI 8] []
def CL {β:Type}(g:St->β):I4 β:=EK.unc g
def ab0:PT St:=pS [sI 1,sI 6,sI 7,sI 8,sl 26 (aV false [(cD dB)])] []
def vB {β:Type}(g:St->β):Int->Int->Int->Int->Bool->β:=ab0.unc g
def aaa:PT (List RV):=pRs [wI,wI]
def g8 {β:Type}(g:List RV->β):Int->Int->β:=aaa.unc g
def qy:ag:=ag.sub [1,1,1,1,0,1,0,0] (emb SB)
def oc (α:Type)(d c b a:Int)(kn:Int->Int->Int->Op α)(k1:Int->Int->Int->Bool->Op α):Op α:=
 cK (decide (a < 20))
 (cK (decide (d<=(w64 (2*b))))
 (kn (w64 ((w64 (2*c))+1)) (w64 ((w64 (2*b)) - d)) (w64 (a+1)))
 (kn (w64 (2*c)) (w64 (2*b)) (w64 (a+1))))
 (k1 c b a (decide (a < 20)))
def mg (α:Type)(a:Int)(k1:Int->Int->Int->Bool->Op α):Nat->Int->Int->Int->Op α
 | 0,_,_,_=>none
 | n+1,b,c,d=>oc α a b c d (mg α a k1 n) k1
def FM (α:Type)(a:Int)(k1:Int->Int->Int->Bool->Op α)(b c d:Int):Op α:=mg α a k1 aG b c d
abbrev Gx:Type 1:=(α:Type)->Int->(Int->Int->Int->Bool->Op α)->Int->Int->Int->Op α
def tj:Gx:=sld FM
def KX (v:Gx)(α:Type)(K:KT α):I4 (Op α):=fun a b c d=>v α a (fun e g h i=>vB (K (.exit 0)) a e g h i) b c d
theorem acb (α:Type)(K:KT α)(Kn:SK α)(a b c d:Int):CL (fun σ=>az Pg Ek2 aN qy (bM (fun σ=>br oA σ Kn) K) σ) a b c d=oc α a b c d (fun b c d=>CL Kn a b c d) (fun e g h i=>vB (K (.exit 0)) a e g h i):=by kernel_rfl
theorem akC (α:Type)(K:KT α):∀ (n:Nat) (a b c d:Int),mg α a (fun e g h i=>vB (K (.exit 0)) a e g h i) n b c d=CL (aK (az Pg Ek2 aN qy) oA K n) a b c d:=by
 intro n
 induction n with
 | zero=>intros;rfl
 | succ n ih=>intro a b c d;exact (congrArg (fun kn=>oc α a b c d kn (fun e g h i=>vB (K (.exit 0)) a e g h i)) (funext fun b=>funext fun c=>funext fun d=>ih a b c d)).trans (acb α K (aK (az Pg Ek2 aN qy) oA K n) a b c d).symm
theorem agZ:∀ (α:Type) (K:KT α),KX tj α K=EK.unc fun σ=>aK (az Pg Ek2 aN qy) oA K aG σ:=aY (fun α K=>funext fun a=>funext fun b=>funext fun c=>funext fun d=>akC α K aG a b c d)
def R4 (α:Type)(c b:Int)(k1:Int->Int->Op α):Op α:=
 dC α c b
 (fun a=>cK (decide (268435456 < a))
 (k1 a (w64 (c - (w64 (a*b)))))
 (cK (decide (a < (-268435456)))
 (k1 a (w64 (c - (w64 (a*b)))))
 (tj α b
 (fun d e g h=>k1 d e) a (w64 (c - (w64 (a*b)))) 0)))
def yw:dU:=sld R4
def SD (v:dU)(α:Type)(k:RT α):Int->Int->Op α:=fun a b=>v α a b (fun c d=>g8 k c d)
def ar4:ag:=(ag.put (.m [⟨EK,KX tj⟩]) [1,1,1,1,0,1,0] (emb SB))
theorem aqD:ak Pg 271 43 ⟨bq,SD yw⟩:=iZ ek2 (ah Tryz.func271 (by kernel_rfl)) aN ar4 ((an _ _).trans (aA _)) (aZ (td:=oA) (by kernel_rfl) (aD SB) ⟨agZ,trivial⟩) fun _ _=>by kernel_rfl
def aD8:TG:=[tT 0 [0],tT 1 [2]]
def aCA:ap:=aw Pg Tryz.f272 aD8 aC
def TF (α:Type)(a:Int)(k1:Bool->Op α):Op α:=
 cS α a (-67108864) 67108864
 (fun b=>k1 b)
def nw:cW:=sld TF
def QP (v:cW)(α:Type)(k:RT α):Int->Op α:=fun a=>v α a (fun b=>bi k b)
theorem auc:ak Pg 272 5 ⟨aU,QP nw⟩:=iP ek2 aCA (ah Tryz.func272 (by kernel_rfl)) aN fun _ _=>by kernel_rfl
def aKX:TG:=[tT 0 [0],tT 1 [2]]
def aJE:ap:=aw Pg Tryz.f99 aKX aC
def afs (α:Type)(a:Int)(k1:Bool->Op α):Op α:=
 cS α a 5000 80000
 (fun b=>k1 b)
def Ly:cW:=sld afs
def aee (v:cW)(α:Type)(k:RT α):Int->Op α:=fun a=>v α a (fun b=>bi k b)
theorem axf:ak Pg 99 5 ⟨aU,aee Ly⟩:=iP ek2 aJE (ah Tryz.func99 (by kernel_rfl)) aN fun _ _=>by kernel_rfl
def aGd:TG:=[tT 0 [0],tT 1 [2]]
def aHc:ap:=aw Pg Tryz.f100 aGd aC
def Iv (α:Type)(a:Int)(k1:Bool->Op α):Op α:=
 cS α a 0 80000
 (fun b=>k1 b)
def sb:cW:=sld Iv
def R3 (v:cW)(α:Type)(k:RT α):Int->Op α:=fun a=>v α a (fun b=>bi k b)
theorem an8:ak Pg 100 5 ⟨aU,R3 sb⟩:=iP ek2 aHc (ah Tryz.func100 (by kernel_rfl)) aN fun _ _=>by kernel_rfl
def Vk:SG:=[(8,iT),(14,iT)]
def aBB:TG:=[tT 0 [1,2,3],tT 1 [6]]
def aEc:ap:=aw Pg Tryz.f124 aBB aC
abbrev fR:Type 1:=(α:Type)->Int->Int->Int->Int->(Bool->Op α)->Op α
def Ry (α:Type)(c d a b:Int)(k1:Bool->Op α):Op α:=
 cS α c a b
 (fun e=>cK e
 (cS α d a b
 (fun g=>k1 g))
 (k1 false))
def yz:fR:=sld Ry
def fO:PT (List DV):=pA [pV true [(dI .i64),(dI .i64)],vI,vI]
def XI (v:fR)(α:Type)(k:RT α):I4 (Op α):=fun a b c d=>v α a b c d (fun e=>bi k e)
theorem aoZ:ak Pg 124 19 ⟨fO,XI yz⟩:=iP ek2 aEc (ah Tryz.func124 (by kernel_rfl)) Vk fun _ _=>by kernel_rfl
def aBA:TG:=[tT 0 [1,2,3],tT 1 [6]]
def aBn:ap:=aw Pg Tryz.f123 aBA aC
def Rz (α:Type)(c d a b:Int)(k1:Bool->Op α):Op α:=
 cS α c a b
 (fun e=>cK e
 (cS α d a b
 (fun g=>k1 g))
 (k1 false))
def yB:fR:=sld Rz
def UY (v:fR)(α:Type)(k:RT α):I4 (Op α):=fun a b c d=>v α a b c d (fun e=>bi k e)
theorem arf:ak Pg 123 19 ⟨fO,UY yB⟩:=iP ek2 aBn (ah Tryz.func123 (by kernel_rfl)) Vk fun _ _=>by kernel_rfl
def aA1:TG:=[tT 0 [0],tT 1 [2]]
def aCt:ap:=aw Pg Tryz.f121 aA1 aC
def W5 (α:Type)(a:Int)(k1:Bool->Op α):Op α:=
 cS α a 0 2
 (fun b=>k1 b)
def JP:cW:=sld W5
def Vp (v:cW)(α:Type)(k:RT α):Int->Op α:=fun a=>v α a (fun b=>bi k b)
theorem as7:ak Pg 121 5 ⟨aU,Vp JP⟩:=iP ek2 aCt (ah Tryz.func121 (by kernel_rfl)) aN fun _ _=>by kernel_rfl
def aKH:TG:=[tT 0 [0,1],tT 1 [4]]
def aJt:ap:=aw Pg Tryz.f69 aKH aC
def ajx (α:Type)(a b:Int)(k1:Int->Op α):Op α:=
 dC α (w64 (0 - a)) b
 (fun c=>k1 (w64 (0 - c)))
def cy:bz:=sld ajx
def ajy (v:bz)(α:Type)(k:RT α):Int->Int->Op α:=fun a b=>v α a b (fun c=>aQ k c)
theorem axW:ak Pg 69 10 ⟨bq,ajy cy⟩:=iP ek2 aJt (ah Tryz.func69 (by kernel_rfl)) aN fun _ _=>by kernel_rfl
def aKM:SG:=[(8,iT),(15,iT),(22,iT),(24,iT)]
def aKu:TG:=[tT 0 [1,2,3],tT 1 [3,20],tT 2 [6],tT 3 [25],tT 4 [6],tT 5 [6]]
def aKk:ap:=aw Pg Tryz.f68 aKu aC
abbrev yt:Type 1:=(α:Type)->Int->Int->Int->Int->(Int->Op α)->Op α
def adX (α:Type)(a b c d:Int)(k1:Int->Op α):Op α:=
 cS α a c d
 (fun e=>cK (!e)
 (k1 2)
 (cS α b c d
 (fun g=>cK (!g)
 (k1 2)
 (cK (decide (b < a))
 (k1 10)
 (k1 0)))))
def ML:yt:=sld adX
def acq (v:yt)(α:Type)(k:RT α):I4 (Op α):=fun a b c d=>v α a b c d (fun e=>aQ k e)
theorem aza:ak Pg 68 26 ⟨fO,acq ML⟩:=iP ek2 aKk (ah Tryz.func68 (by kernel_rfl)) aKM fun _ _=>by kernel_rfl
def aDz:SG:=[(4,iS 2),(7,iT),(12,iT)]
def aAK:TG:=[tT 0 [1,2],tT 1 [1,2,3],tT 2 [2]]
def aCJ:ap:=aw Pg Tryz.f151 aAK aC
def Up (α:Type)(b c:Int)(k1:Int->Int->Op α):Op α:=
 eE α b c
 (fun a=>k1 a a)
def yH:dU:=sld Up
def Xd (v:dU)(α:Type)(k:RT α):Int->Int->Op α:=fun a b=>v α a b (fun c d=>g5 k a c d b)
theorem aq5:ak Pg 151 15 ⟨ba,Xd yH⟩:=iP ek2 aCJ (ah Tryz.func151 (by kernel_rfl)) aDz fun _ _=>by kernel_rfl
def avT:SG:=[(6,iS 2),(9,iS 2),(19,iT),(22,iT),(26,iT),(29,iT)]
def aGI:TG:=[tT 0 [1],tT 1 [1,3,4],tT 2 [4,11],tT 3 [2],tT 4 [34],tT 5 [2],tT 6 [2]]
def adB:ap:=aw Pg Tryz.f119 aGI aC
def CT:PT St:=pS [sP 1,sl 3 (aV false [(cD dB)]),sl 4 (aV false [(cD dB)])] [au 1 (xs 4)]
def aHx {β:Type}(g:St->β):Bool->Bool->I4 β:=CT.unc g
def aj5:PT St:=pS [sl 4 (aV false [(cD dB)]),sl 11 (aV false [(cD dB)])] []
def aha {β:Type}(g:St->β):Bool->Bool->β:=aj5.unc g
def adF:ag:=ag.sub [1,1,0,0,0] (emb adB)
abbrev GH:Type 1:=(α:Type)->Bool->Bool->Int->Int->Int->Int->(Bool->Op α)->Op α
def Fl (α:Type)(a b:Bool)(c d e g:Int)(k1:Bool->Op α):Op α:=
 cK a
 (cK (!b)
 (k1 true)
 (k1 (decide ((w64 (g - e))<=(w64 (d - c))))))
 (k1 false)
def tH:GH:=sld Fl
def Ow (v:GH)(α:Type)(K:KT α):Bool->Bool->I4 (Op α):=fun b a c d e g=>v α b a c d e g (fun h=>aha (K .normal) a h)
theorem akk:∀ (α:Type) (K:KT α),Ow tH α K=CT.unc fun σ=>az Pg Ek2 avT adF K σ:=aY (fun α K=>by kernel_rfl)
def W3 (α:Type)(a b c d:Int)(k1:Int->Op α):Op α:=
 pI α a b
 (fun g=>pI α c d
 (fun e=>tH α g e a b c d
 (fun h=>cK h
 (k1 1)
 (cK e
 (k1 2)
 (k1 0)))))
def jy:yt:=sld W3
def Rg (v:yt)(α:Type)(k:RT α):I4 (Op α):=fun a b c d=>v α a b c d (fun e=>aQ k e)
def atH:ag:=(ag.put (.m [⟨CT,Ow tH⟩]) [1,1,0,0] (emb adB))
theorem aoz:ak Pg 119 36 ⟨qW,Rg jy⟩:=iZ ek2 (ah Tryz.func119 (by kernel_rfl)) avT atH ((an _ _).trans (aA _)) (aL (by kernel_rfl) (aD adB) ⟨akk,trivial⟩) fun _ _=>by kernel_rfl
def Mj:SG:=[(10,[.sl])]
def aFy:TG:=[tT 0 [0],tT 1 [0,12,13],tT 2 [0,12,13,14],tT 3 [0,3,12,13],tT 4 [0,5,12,13],tT 5 [0,12,13,23],tT 6 [0,2],tT 7 [0,12,13],tT 8 [0,2]]
def aDx:TG:=[tT 2 [0,12,13]]
def R7:ap:=aw Pg Tryz.f136 aFy aDx
def uo:OT:=tdC (ag.sub [1,0,1,0] (emb R7))
def Ej:PT St:=pSv [(0,500000000,0)] [sl 0 (aV false [(cC 500000000 0)]),sI 12,sI 13] [au 500000000 [xI,xI,xI,xI,xI,xI,xI,(cD dL),xI,xI]]
def Bc {β:Type}(g:St->β):Int->Int->Int->Int->Int->Int->Int->Int->Int->ae->Int->Int->β:=Ej.unc g
def agd:PT St:=pSv [(0,500000000,0)] [sl 0 (aV false [(cC 500000000 0)]),sl 2 (aV false [(cD dB)])] [au 500000000 [xI,xI,xI,xI,xI,xI,xI,(cD dL),xI,xI]]
def vm {β:Type}(g:St->β):Bool->Int->Int->Int->Int->Int->Int->Int->ae->Int->Int->β:=agd.unc g
def ai1:PT St:=pSv [(0,500000000,0)] [sl 0 (aV false [(cC 500000000 0)]),sI 12,sI 13,sl 14 (aV false [(cD dB)])] [au 500000000 [xI,xI,xI,xI,xI,xI,xI,(cD dL),xI,xI]]
def u9 {β:Type}(g:St->β):Int->Int->Bool->Int->Int->Int->Int->Int->Int->Int->ae->Int->Int->β:=ai1.unc g
def abb:PT (List RV):=pRs [pR false [rD dB],pR true [rD (dI .i64),rD (dI .i64),rD (dI .i64),rD (dI .i64),rD (dI .i64),rD (dI .i64),rD (dI .i64),rD dL,rD (dI .i64),rD (dI .i64)]]
def abQ {β:Type}(g:List RV->β):Bool->Int->Int->Int->Int->Int->Int->Int->ae->Int->Int->β:=abb.unc g
def wK:ag:=ag.sub [1,0,1,0,0] (emb R7)
def nF (α:Type)(b c:Int)(d:ae)(e g a:Int)(kn:Int->Op α)(k1:Op α)(k2:Int->Bool->Op α):Op α:=
 cK (decide (a < b))
 (rN α c d e g a
 (fun i j h=>cK (h != 0)
 (k1)
 (kn (w64 (a+1)))))
 (k2 a (decide (a < b)))
def ln (α:Type)(a b:Int)(c:ae)(d e:Int)(k1:Op α)(k2:Int->Bool->Op α):Nat->Int->Op α
 | 0,_=>none
 | n+1,g=>nF α a b c d e g (ln α a b c d e k1 k2 n) k1 k2
def Hl (α:Type)(a b:Int)(c:ae)(d e:Int)(k1:Op α)(k2:Int->Bool->Op α)(g:Int):Op α:=ln α a b c d e k1 k2 aG g
abbrev GG:Type 1:=(α:Type)->Int->Int->ae->Int->Int->(Op α)->(Int->Bool->Op α)->Int->Op α
def vN:GG:=sld Hl
def Ol (v:GG)(α:Type)(K:KT α):Int->Int->Int->Int->Int->Int->Int->Int->Int->ae->Int->Int->Op α:=fun e o g a h i j l m b c d=>v α e a b c d (vm (K .ret) true g a h i j l m b c d) (fun p q=>u9 (K (.exit 0)) e p q g a h i j l m b c d) o
theorem adD (α:Type)(K:KT α)(Kn:SK α)(e g h a i j l m o:Int)(b:ae)(c d:Int):Bc (fun σ=>az Pg Ek2 Mj wK (bM (fun σ=>br uo σ Kn) K) σ) e g h a i j l m o b c d=nF α e a b c d g (fun g=>Bc Kn e g h a i j l m o b c d) (vm (K .ret) true h a i j l m o b c d) (fun p q=>u9 (K (.exit 0)) e p q h a i j l m o b c d):=by kernel_rfl
theorem aik (α:Type)(K:KT α):∀ (n:Nat) (e o g a h i j l m:Int) (b:ae) (c d:Int),ln α e a b c d (vm (K .ret) true g a h i j l m b c d) (fun p q=>u9 (K (.exit 0)) e p q g a h i j l m b c d) n o=Bc (aK (az Pg Ek2 Mj wK) uo K n) e o g a h i j l m b c d:=by
 intro n
 induction n with
 | zero=>intros;rfl
 | succ n ih=>intro e o g a h i j l m b c d;exact (congrArg (fun kn=>nF α e a b c d o kn (vm (K .ret) true g a h i j l m b c d) (fun p q=>u9 (K (.exit 0)) e p q g a h i j l m b c d)) (funext fun o=>ih e o g a h i j l m b c d)).trans (adD α K (aK (az Pg Ek2 Mj wK) uo K n) e o g a h i j l m b c d).symm
theorem ahP:∀ (α:Type) (K:KT α),Ol vN α K=Ej.unc fun σ=>aK (az Pg Ek2 Mj wK) uo K aG σ:=aY (fun α K=>funext fun a=>funext fun b=>funext fun c=>funext fun d=>funext fun e=>funext fun g=>funext fun h=>funext fun i=>funext fun j=>funext fun l=>funext fun m=>funext fun o=>aik α K aG a b c d e g h i j l m o)
abbrev VB:Type 1:=(α:Type)->Int->ae->Int->Int->(Bool->Op α)->Op α
def TP (α:Type)(b:Int)(a:ae)(c d:Int)(k1:Bool->Op α):Op α:=
 vN α (w64 (((List.length a:Nat):Int)+2)) b a c d
 (k1 true)
 (fun e g=>k1 false) 0
def ou:VB:=sld TP
def S3:PT (List DV):=pA [pV false [(dMr [(dI .i64),(dI .i64),(dI .i64),(dI .i64),(dI .i64),(dI .i64),(dI .i64),dL,(dI .i64),(dI .i64)] 0)]]
def TU (v:VB)(α:Type)(k:RT α):Int->Int->Int->Int->Int->Int->Int->ae->Int->Int->Op α:=fun e a g h i j l b c d=>v α a b c d (fun m=>abQ k m e a g h i j l b c d)
def aoO:ag:=(ag.put (.m [⟨Ej,Ol vN⟩]) [1,0,1,0] (emb R7))
theorem ape:ak Pg 136 25 ⟨S3,TU ou⟩:=iZ ek2 (ah Tryz.func136 (by kernel_rfl)) Mj aoO ((an _ _).trans (aA _)) (aZ (td:=uo) (by kernel_rfl) (aD R7) ⟨ahP,trivial⟩) fun _ _=>by kernel_rfl
def avb:SG:=[(7,iT),(13,iT),(21,iT),(28,iT),(30,iT)]
def aBu:TG:=[tT 0 [1,2],tT 1 [2,5],tT 2 [4],tT 3 [26],tT 4 [4],tT 5 [4]]
def acH:ap:=aw Pg Tryz.f253 aBu aC
def Be:PT St:=pS [sI 1,sP 2] [au 2 [xI,xI]]
def aA7 {β:Type}(g:St->β):Int->Int->Int->β:=Be.unc g
def agh:PT St:=pS [sP 2,sl 5 (aV false [(cD dB)])] [au 2 [xI,xI]]
def BS {β:Type}(g:St->β):Bool->Int->Int->β:=agh.unc g
def ajF:ag:=ag.sub [1,0,0,0] (emb acH)
def FF (α:Type)(a c b:Int)(k1:Bool->Op α):Op α:=
 kU α c a 1099511627776
 (fun d=>cK (!d)
 (k1 true)
 (cK (decide (1099511627776 < b))
 (k1 true)
 (cK (decide (a < 0))
 (k1 (decide (b < a)))
 (k1 false))))
def uX:cg:=sld FF
def Md (v:cg)(α:Type)(K:KT α):Int->Int->Int->Op α:=fun c a b=>v α c a b (fun d=>BS (K .normal) d a b)
theorem af2:∀ (α:Type) (K:KT α),Md uX α K=Be.unc fun σ=>az Pg Ek2 avb ajF K σ:=aY (fun α K=>by kernel_rfl)
abbrev zC:Type 1:=(α:Type)->Int->Int->Int->(Int->Op α)->Op α
def Wg (α:Type)(a b c:Int)(k1:Int->Op α):Op α:=
 uX α c a b
 (fun d=>cK d
 (k1 2)
 (cK (decide (b < a))
 (k1 10)
 (k1 0)))
def xH:zC:=sld Wg
def Xq (v:zC)(α:Type)(k:RT α):Int->Int->Int->Op α:=fun a b c=>v α a b c (fun d=>aQ k d)
def apc:ag:=(ag.put (.m [⟨Be,Md uX⟩]) [1,0,0] (emb acH))
theorem at3:ak Pg 253 32 ⟨zR,Xq xH⟩:=iZ ek2 (ah Tryz.func253 (by kernel_rfl)) avb apc ((an _ _).trans (aA _)) (aL (by kernel_rfl) (aD acH) ⟨af2,trivial⟩) fun _ _=>by kernel_rfl
def aFE:TG:=[tT 0 [0],tT 1 [2]]
def aFk:ap:=aw Pg Tryz.f260 aFE aC
def Tz (α:Type)(a:Int)(k1:Int->Op α):Op α:=
 gC α a
 (fun b=>k1 (w64 (64 - b)))
def BV:ch:=sld Tz
def Tk (v:ch)(α:Type)(k:RT α):Int->Op α:=fun a=>v α a (fun b=>aQ k b)
theorem apO:ak Pg 260 6 ⟨Ao,Tk BV⟩:=iP ek2 aFk (ah Tryz.func260 (by kernel_rfl)) aN fun _ _=>by kernel_rfl
def avK:SG:=[(7,iS 2),(9,iS 2),(12,iT),(14,iT)]
def aCk:TG:=[tT 0 [2,3,4],tT 1 [4,5]]
def aEs:ap:=aw Pg Tryz.f227 aCk aC
def aat:PT (List RV):=pRs [pR true [rD (dI .i64),rD (dI .i64),rD (dI .i64)],wI]
def bD {β:Type}(g:List RV->β):I4 β:=aat.unc g
abbrev fK:Type 1:=(α:Type)->Int->Int->Int->Int->Int->Int->(Int->Int->Int->Op α)->Op α
def Vy (α:Type)(a b c d e g:Int)(k1:Int->Int->Int->Op α):Op α:=
 Ip α a b d e
 (fun h i=>k1 h i (w64 (c+g)))
def IM:fK:=sld Vy
def dY:PT (List DV):=pA [pV true [(dI .i64),(dI .i64),(dI .i64)],pV true [(dI .i64),(dI .i64),(dI .i64)]]
def ZC (v:fK)(α:Type)(k:RT α):I6 (Op α):=fun a b c d e g=>v α a b c d e g (fun h i j=>bD k h i j 0)
theorem apv:ak Pg 227 17 ⟨dY,ZC IM⟩:=iP ek2 aEs (ah Tryz.func227 (by kernel_rfl)) avK fun _ _=>by kernel_rfl
def aAj:TG:=[tT 0 [0,1],tT 1 [4]]
def aEX:ap:=aw Pg Tryz.f168 aAj aC
def J6 (α:Type)(a b:Int)(k1:Int->Op α):Op α:=
 fV α (w64 (0 - a)) b
 (fun c=>k1 (w64 (0 - c)))
def cB:bz:=sld J6
def Yo (v:bz)(α:Type)(k:RT α):Int->Int->Op α:=fun a b=>v α a b (fun c=>aQ k c)
theorem aoF:ak Pg 168 10 ⟨bq,Yo cB⟩:=iP ek2 aEX (ah Tryz.func168 (by kernel_rfl)) aN fun _ _=>by kernel_rfl
def aBm:TG:=[tT 0 [0],tT 1 [0,3],tT 2 [0,3,12],tT 3 [0,3],tT 4 [0,3,21],tT 5 [0,3],tT 6 [2]]
def aCc:TG:=[tT 2 [0,3],tT 4 [0,3]]
def FZ:ap:=aw Pg Tryz.f198 aBm aCc
def vF:OT:=tdC (ag.sub [1,1,0,0] (emb FZ))
def nx:OT:=tdC (ag.sub [1,1,1,0,0] (emb FZ))
def aj2:PT St:=pS [sI 0,sI 3,sl 12 (aV false [(cD dB)])] []
def uC {β:Type}(g:St->β):Int->Int->Bool->β:=aj2.unc g
def acE:PT St:=pS [sI 0,sI 3,sl 21 (aV false [(cD dB)])] []
def vA {β:Type}(g:St->β):Int->Int->Bool->β:=acE.unc g
def p9:ag:=ag.sub [1,1,1,0,0,0] (emb FZ)
def pm (α:Type)(b a:Int)(kn:Int->Op α)(k1:Int->Bool->Op α):Op α:=
 cK (decide ((w64 ((w64 (a+1))*(w64 (a+1))))<=b))
 (kn (w64 (a+1)))
 (k1 a (decide ((w64 ((w64 (a+1))*(w64 (a+1))))<=b)))
def fE (α:Type)(a:Int)(k1:Int->Bool->Op α):Nat->Int->Op α
 | 0,_=>none
 | n+1,b=>pm α a b (fE α a k1 n) k1
def GZ (α:Type)(a:Int)(k1:Int->Bool->Op α)(b:Int):Op α:=fE α a k1 aG b
def lQ:jf:=sld GZ
def Lb (v:jf)(α:Type)(K:KT α):Int->Int->Op α:=fun a b=>v α a (fun c d=>vA (K (.exit 2)) a c d) b
theorem ahq (α:Type)(K:KT α)(Kn:SK α)(a b:Int):gL (fun σ=>az Pg Ek2 aN p9 (bM (fun σ=>br nx σ Kn) K) σ) a b=pm α a b (fun b=>gL Kn a b) (fun c d=>vA (K (.exit 2)) a c d):=by kernel_rfl
theorem aiv (α:Type)(K:KT α):∀ (n:Nat) (a b:Int),fE α a (fun c d=>vA (K (.exit 2)) a c d) n b=gL (aK (az Pg Ek2 aN p9) nx K n) a b:=by
 intro n
 induction n with
 | zero=>intros;rfl
 | succ n ih=>intro a b;exact (congrArg (fun kn=>pm α a b kn (fun c d=>vA (K (.exit 2)) a c d)) (funext fun b=>ih a b)).trans (ahq α K (aK (az Pg Ek2 aN p9) nx K n) a b).symm
theorem aeQ:∀ (α:Type) (K:KT α),Lb lQ α K=jR.unc fun σ=>aK (az Pg Ek2 aN p9) nx K aG σ:=aY (fun α K=>funext fun a=>funext fun b=>aiv α K aG a b)
def sV:ag:=ag.sub [1,1,0,0,0] (emb FZ)
def lC (α:Type)(b a:Int)(kn:Int->Op α)(k1:Int->Bool->Op α):Op α:=
 cK (decide (b < (w64 (a*a))))
 (kn (w64 (a - 1)))
 (k1 a (decide (b < (w64 (a*a)))))
def fi (α:Type)(a:Int)(k1:Int->Bool->Op α):Nat->Int->Op α
 | 0,_=>none
 | n+1,b=>lC α a b (fi α a k1 n) k1
def F8 (α:Type)(a:Int)(k1:Int->Bool->Op α)(b:Int):Op α:=fi α a k1 aG b
def lX:jf:=sld F8
def Nq (v:jf)(α:Type)(K:KT α):Int->Int->Op α:=fun a b=>v α a (fun c d=>uC (K (.exit 0)) a c d) b
theorem ajn (α:Type)(K:KT α)(Kn:SK α)(a b:Int):gL (fun σ=>az Pg Ek2 aN sV (bM (fun σ=>br vF σ Kn) K) σ) a b=lC α a b (fun b=>gL Kn a b) (fun c d=>uC (K (.exit 0)) a c d):=by kernel_rfl
theorem afL (α:Type)(K:KT α):∀ (n:Nat) (a b:Int),fi α a (fun c d=>uC (K (.exit 0)) a c d) n b=gL (aK (az Pg Ek2 aN sV) vF K n) a b:=by
 intro n
 induction n with
 | zero=>intros;rfl
 | succ n ih=>intro a b;exact (congrArg (fun kn=>lC α a b kn (fun c d=>uC (K (.exit 0)) a c d)) (funext fun b=>ih a b)).trans (ajn α K (aK (az Pg Ek2 aN sV) vF K n) a b).symm
theorem ads:∀ (α:Type) (K:KT α),Nq lX α K=jR.unc fun σ=>aK (az Pg Ek2 aN sV) vF K aG σ:=aY (fun α K=>funext fun a=>funext fun b=>afL α K aG a b)
def SI (α:Type)(a:Int)(k1:Int->Op α):Op α:=
 JI α (FloatKind.nearest .f64 a)
 (fun b=>ivK (f2i .f64 b .i64)
 (fun c=>lX α a
 (fun d g=>lQ α a
 (fun e h=>k1 e) d) c))
def eD:ch:=sld SI
def SQ (v:ch)(α:Type)(k:RT α):Int->Op α:=fun a=>v α a (fun b=>aQ k b)
def apq:ag:=(ag.put (.m [⟨jR,Nq lX⟩]) [1,1,0,0] (ag.put (.m [⟨jR,Lb lQ⟩]) [1,1,1,0,0] (emb FZ)))
theorem amO:ak Pg 198 25 ⟨aU,SQ eD⟩:=iZ ek2 (ah Tryz.func198 (by kernel_rfl)) aN apq ((an _ _).trans ((an _ _).trans (aA _))) (aZ (td:=vF) (by kernel_rfl) (aZ (td:=nx) (by kernel_rfl) (aD FZ) ⟨aeQ,trivial⟩) ⟨ads,trivial⟩) fun _ _=>by kernel_rfl
def aBP:TG:=[tT 0 [2,3,4],tT 1 [4,5]]
def aE2:ap:=aw Pg Tryz.f217 aBP aC
def Ri (α:Type)(a b c d e g:Int)(k1:Int->Int->Int->Op α):Op α:=
 xl α a b d e
 (fun h i=>k1 h i (w64 (c+g)))
def JZ:fK:=sld Ri
def RD (v:fK)(α:Type)(k:RT α):I6 (Op α):=fun a b c d e g=>v α a b c d e g (fun h i j=>bD k h i j 0)
theorem anX:ak Pg 217 17 ⟨dY,RD JZ⟩:=iP ek2 aE2 (ah Tryz.func217 (by kernel_rfl)) avK fun _ _=>by kernel_rfl
def aKI:TG:=[tT 0 [0,1],tT 1 [0,1,6],tT 2 [0],tT 3 [0,10],tT 4 [0],tT 5 [4]]
def aJS:ap:=aw Pg Tryz.f84 aKI aC
abbrev aiy:Type 1:=(α:Type)->Nat->Int->(Bool->Op α)->Op α
def aiS (α:Type)(a:Nat)(b:Int)(k1:Bool->Op α):Op α:=
 cK (b == 0)
 (xY α a
 (fun c=>k1 ((FloatKind.format .f64).order c 9218868437227405311 == some Ordering.gt)))
 (cK (decide (b < 0))
 (k1 ((FloatKind.format .f64).order (Op.negFloat .f64 a) 9218868437227405311 == some Ordering.gt))
 (k1 ((FloatKind.format .f64).order a 9218868437227405311 == some Ordering.gt)))
def Zd:aiy:=sld aiS
def akb:PT (List DV):=pA [pV false [(dF .f64)],vI]
def alV (v:aiy)(α:Type)(k:RT α):Nat->Int->Op α:=fun a b=>v α a b (fun c=>bi k c)
theorem ayu:ak Pg 84 15 ⟨akb,alV Zd⟩:=iP ek2 aJS (ah Tryz.func84 (by kernel_rfl)) aN fun _ _=>by kernel_rfl
def aAP:TG:=[tT 0 [0,1],tT 1 [4,5]]
def aEK:ap:=aw Pg Tryz.f221 aAP aC
def R1 (α:Type)(b a:Int)(k1:Int->Bool->Op α):Op α:=
 fV α (w64 ((w64 (2*b))+a)) (w64 (2*a))
 (fun c=>gK (a != 0) (k1 c ((Int.tmod b a) != 0)))
def my:qT:=sld R1
def Xr (v:qT)(α:Type)(k:RT α):Int->Int->Op α:=fun a b=>v α a b (fun c d=>qo k c d)
theorem amE:ak Pg 221 17 ⟨bq,Xr my⟩:=iP ek2 aEK (ah Tryz.func221 (by kernel_rfl)) aN fun _ _=>by kernel_rfl
def aFJ:TG:=[tT 0 [0,1],tT 1 [4]]
def aHi:ap:=aw Pg Tryz.f197 aFJ aC
def U1 (α:Type)(b a:Int)(k1:Bool->Op α):Op α:=
 kU α b (w64 (0 - a)) a
 (fun c=>k1 c)
def jS:bI:=sld U1
def Wk (v:bI)(α:Type)(k:RT α):Int->Int->Op α:=fun a b=>v α a b (fun c=>bi k c)
theorem anq:ak Pg 197 10 ⟨bq,Wk jS⟩:=iP ek2 aHi (ah Tryz.func197 (by kernel_rfl)) aN fun _ _=>by kernel_rfl
def aFh:TG:=[tT 0 [0],tT 1 [2]]
def aC0:ap:=aw Pg Tryz.f117 aFh aC
def Zm (α:Type)(a:Int)(k1:Bool->Op α):Op α:=
 pk α a 1000 200000
 (fun b=>k1 b)
def Co:cW:=sld Zm
def Zp (v:cW)(α:Type)(k:RT α):Int->Op α:=fun a=>v α a (fun b=>bi k b)
theorem aro:ak Pg 117 5 ⟨aU,Zp Co⟩:=iP ek2 aC0 (ah Tryz.func117 (by kernel_rfl)) aN fun _ _=>by kernel_rfl
def aFz:TG:=[tT 0 [0],tT 1 [2]]
def aCg:ap:=aw Pg Tryz.f116 aFz aC
def P4 (α:Type)(a:Int)(k1:Bool->Op α):Op α:=
 pk α a 0 9999
 (fun b=>k1 b)
def BR:cW:=sld P4
def XD (v:cW)(α:Type)(k:RT α):Int->Op α:=fun a=>v α a (fun b=>bi k b)
theorem asc:ak Pg 116 5 ⟨aU,XD BR⟩:=iP ek2 aCg (ah Tryz.func116 (by kernel_rfl)) aN fun _ _=>by kernel_rfl
def aBi:TG:=[tT 0 [1,2,3],tT 1 [6]]
def aCf:ap:=aw Pg Tryz.f149 aBi aC
def UK (α:Type)(c d a b:Int)(k1:Bool->Op α):Op α:=
 iD α c a b
 (fun e=>cK e
 (iD α d a b
 (fun g=>k1 g))
 (k1 false))
def yQ:fR:=sld UK
def Qu (v:fR)(α:Type)(k:RT α):I4 (Op α):=fun a b c d=>v α a b c d (fun e=>bi k e)
theorem am4:ak Pg 149 19 ⟨fO,Qu yQ⟩:=iP ek2 aCf (ah Tryz.func149 (by kernel_rfl)) Vk fun _ _=>by kernel_rfl
def aEo:SG:=[(4,iT),(8,iT)]
def aAt:TG:=[tT 0 [1],tT 1 [2]]
def aEv:ap:=aw Pg Tryz.f148 aAt aC
def Uv (α:Type)(a b:Int)(k1:Bool->Op α):Op α:=
 iD α a 0 2
 (fun c=>cK c
 (iD α b 0 1
 (fun d=>k1 d))
 (k1 false))
def DP:bI:=sld Uv
def Rn (v:bI)(α:Type)(k:RT α):I9 (Op α):=fun a b d e g h i j l=>v α a b (fun c=>bi k c)
theorem aup:ak Pg 148 11 ⟨la,Rn DP⟩:=iP ek2 aEv (ah Tryz.func148 (by kernel_rfl)) aEo fun _ _=>by kernel_rfl
def aK2:TG:=[tT 0 [0],tT 1 [2]]
def aKd:ap:=aw Pg Tryz.f79 aK2 aC
def Pk (α:Type)(a:Int)(k1:Bool->Op α):Op α:=
 pk α a 0 1000000
 (fun b=>k1 b)
def CP:cW:=sld Pk
def al9 (v:cW)(α:Type)(k:RT α):Int->Op α:=fun a=>v α a (fun b=>bi k b)
theorem azC:ak Pg 79 5 ⟨aU,al9 CP⟩:=iP ek2 aKd (ah Tryz.func79 (by kernel_rfl)) aN fun _ _=>by kernel_rfl
def aKE:TG:=[tT 0 [0],tT 1 [2]]
def aKy:ap:=aw Pg Tryz.f78 aKE aC
def JQ (α:Type)(a:Int)(k1:Bool->Op α):Op α:=
 pk α a 0 80000
 (fun b=>k1 b)
def yR:cW:=sld JQ
def adi (v:cW)(α:Type)(k:RT α):Int->Op α:=fun a=>v α a (fun b=>bi k b)
theorem awM:ak Pg 78 5 ⟨aU,adi yR⟩:=iP ek2 aKy (ah Tryz.func78 (by kernel_rfl)) aN fun _ _=>by kernel_rfl
def aLb:TG:=[tT 0 [0],tT 1 [2]]
def aIS:ap:=aw Pg Tryz.f77 aLb aC
def IT (α:Type)(a:Int)(k1:Bool->Op α):Op α:=
 pk α a 5000 80000
 (fun b=>k1 b)
def re:cW:=sld IT
def ajV (v:cW)(α:Type)(k:RT α):Int->Op α:=fun a=>v α a (fun b=>bi k b)
theorem azh:ak Pg 77 5 ⟨aU,ajV re⟩:=iP ek2 aIS (ah Tryz.func77 (by kernel_rfl)) aN fun _ _=>by kernel_rfl
def aJd:TG:=[tT 0 [1,2,3],tT 1 [6]]
def aIL:ap:=aw Pg Tryz.f76 aJd aC
def aeZ (α:Type)(c d a b:Int)(k1:Bool->Op α):Op α:=
 rj α c a b
 (fun e=>cK e
 (rj α d a b
 (fun g=>k1 g))
 (k1 false))
def Lk:fR:=sld aeZ
def agL (v:fR)(α:Type)(k:RT α):I4 (Op α):=fun a b c d=>v α a b c d (fun e=>bi k e)
theorem awf:ak Pg 76 19 ⟨fO,agL Lk⟩:=iP ek2 aIL (ah Tryz.func76 (by kernel_rfl)) Vk fun _ _=>by kernel_rfl
def aI1:SG:=[(4,[.sl]),(7,[.sl]),(11,[.sl]),(16,[.sl,.sl,.int .i64,.sl,.int .i64,.int .i64])]
def aJm:TG:=[(0,⟨[1,2],true,[⟨true,2,0,30200,3⟩,⟨true,2,1,30201,2⟩,⟨true,2,3,30203,9⟩],[]⟩),(1,⟨[1,2],true,[⟨true,2,0,30200,3⟩,⟨true,2,1,30201,2⟩,⟨true,2,3,30203,9⟩],[]⟩),(2,⟨[2],true,[⟨true,2,0,30200,3⟩,⟨true,2,1,30201,2⟩,⟨true,2,3,30203,9⟩],[]⟩)]
def aKR:ap:=aw Pg Tryz.f10 aJm aC
def alm:PT (List RV):=pRs [pR true [rO 3,rO 2,rD (dI .i64),rO 9,rD (dI .i64),rD (dI .i64)]]
def aeu {β:Type}(g:List RV->β):ae->ae->Int->ae->Int->Int->β:=alm.unc g
abbrev ajs:Type 1:=(α:Type)->ae->ae->ae->(ae->ae->ae->Op α)->Op α
def aiR (α:Type)(b c a:ae)(k1:ae->ae->ae->Op α):Op α:=
 Y2 α b
 (fun d=>TM α c
 (fun e=>gK (cj 9 72 ([]:ae) a) (k1 d e (([]:ae)++a))))
def yT:ajs:=sld aiR
def ahk (v:ajs)(α:Type)(k:RT α):ae->ae->Int->ae->Int->Int->Op α:=fun a b c d e g=>v α a b d (fun h i j=>aeu k h i c j e g)
theorem ayw:ak Pg 10 17 ⟨fx,ahk yT⟩:=iP ek2 aKR (ah Tryz.func10 (by kernel_rfl)) aI1 fun _ _=>by kernel_rfl
def sh7:SG:=[(5,[.sl,.sl,.int .i64,.sl,.int .i64,.int .i64]),(10,[.sl]),(15,[.sl]),(22,[.sl]),(28,[.sl]),(34,[.sl]),(36,iS 9),(37,iS 9),(40,iT),(45,iT),(48,iT),(55,iT),(60,iT),(63,iT)]
def tr7:TG:=[tT 0 [1],tT 1 [1,25],tT 2 [2],tT 3 [1,3],tT 4 [1,3,30],tT 6 [1,3,4],tT 7 [1,3,67],tT 8 [2],tT 5 [1,3],tT 9 [2]]
def tl7:TG:=[(4,⟨[1,3],true,[⟨true,1,0,30100,3⟩,⟨true,1,1,30101,2⟩,⟨true,1,3,30103,9⟩],[]⟩)]
def ac7:ap:=aw Pg Tryz.f7 tr7 tl7
def Bn:OT:=tdC (ag.sub [1,1,0,1,0] (emb ac7))
def Pw:PT St:=pS [sP 1] [au 1 [(cD dL),(cD dL),xI,(cD dL),xI,xI]]
def aJy {β:Type}(g:St->β):ae->ae->Int->ae->Int->Int->β:=Pw.unc g
def awy:PT St:=pS [sl 2 (aV false [(cD dB)])] []
def Dg {β:Type}(g:St->β):Bool->β:=awy.unc g
def azJ:PT St:=pS [sP 1,sl 25 (aV false [(cD dB)])] [au 1 [(cD dL),(cD dL),xI,(cD dL),xI,xI]]
def axy {β:Type}(g:St->β):Bool->ae->ae->Int->ae->Int->Int->β:=azJ.unc g
def Jy:PT St:=pS [sP 1,sI 3,sP 4] [au 1 [(cD dL),(cD dL),xI,(cD dL),xI,xI],au 4 (xs 9)]
def aJH {β:Type}(g:St->β):Int->ae->ae->Int->ae->I11 β:=Jy.unc g
def axO:PT St:=pS [sP 1,sI 3,sl 67 (aV false [(cD dB)])] [au 1 [(cD dL),(cD dL),xI,(cD dL),xI,xI]]
def axr {β:Type}(g:St->β):Int->Bool->ae->ae->Int->ae->Int->Int->β:=axO.unc g
def Pb:PT St:=pS [sP 1,sI 3] [au 1 [(cD dL),(cD dL),xI,(cD dL),xI,xI]]
def Pl {β:Type}(g:St->β):Int->ae->ae->Int->ae->Int->Int->β:=Pb.unc g
def awO:PT St:=pS [sP 1,sI 3,sl 30 (aV false [(cD dB)])] [au 1 [(cD dL),(cD dL),xI,(cD dL),xI,xI]]
def J4 {β:Type}(g:St->β):Int->Bool->ae->ae->Int->ae->Int->Int->β:=awO.unc g
def aql:ag:=ag.sub [1,1,0,1,0,0,1,0,0,1,0] (emb ac7)
def WG (α:Type)(a b c d:Int)(k1:Bool->Op α):Op α:=
 cS α c 1000 200000
 (fun e=>cK e
 (cS α d (w64 (c+200)) 200000
 (fun g=>cK g
 (k1 true)
 (cS α a 0 9999
 (fun h=>cK h
 (cS α b (w64 (a+200)) 9999
 (fun i=>k1 i))
 (k1 false)))))
 (cS α a 0 9999
 (fun j=>cK j
 (cS α b (w64 (a+200)) 9999
 (fun l=>k1 l))
 (k1 false))))
def ye:fR:=sld WG
def OW (v:fR)(α:Type)(K:KT α):Int->ae->ae->Int->ae->I11 (Op α):=fun a b c d e g h p q r i j l m s t=>v α i j l m (fun o=>axr (K .normal) a o b c d e g h)
theorem awJ:∀ (α:Type) (K:KT α),OW ye α K=Jy.unc fun σ=>az Pg Ek2 sh7 aql K σ:=aY (fun α K=>by kernel_rfl)
def zN:ag:=ag.sub [1,1,0,1,0,0] (ag.put (.m [⟨Jy,OW ye⟩]) [1,1,0,1,0,0,1,0,0,1] (emb ac7))
def D8 (α:Type)(b:ae)(a:Int)(kn:Int->Op α)(k1:Op α)(k2:Int->Bool->Op α):Op α:=
 cK (decide (a < ((List.length b:Nat):Int)))
 (dE b a [.int .i64,.int .i64,.int .i64,.int .i64,.int .i64,.int .i64,.int .i64,.int .i64,.int .i64]
 (fun i j l c d e g m o=>ye α c d e g
 (fun h=>cK h
 (k1)
 (kn (w64 (a+1))))))
 (k2 a (decide (a < ((List.length b:Nat):Int))))
def se (α:Type)(a:ae)(k1:Op α)(k2:Int->Bool->Op α):Nat->Int->Op α
 | 0,_=>none
 | n+1,b=>D8 α a b (se α a k1 k2 n) k1 k2
def Qn (α:Type)(a:ae)(k1:Op α)(k2:Int->Bool->Op α)(b:Int):Op α:=se α a k1 k2 aG b
abbrev zL:Type 1:=(α:Type)->ae->(Op α)->(Int->Bool->Op α)->Int->Op α
def mO:zL:=sld Qn
def ad1 (v:zL)(α:Type)(K:KT α):Int->ae->ae->Int->ae->Int->Int->Op α:=fun b c d e a g h=>v α a (Dg (K .ret) false) (fun i j=>J4 (K (.exit 0)) i j c d e a g h) b
theorem awR (α:Type)(K:KT α)(Kn:SK α)(a:Int)(c d:ae)(e:Int)(b:ae)(g h:Int):Pl (fun σ=>az Pg Ek2 sh7 zN (bM (fun σ=>br Bn σ Kn) K) σ) a c d e b g h=D8 α b a (fun a=>Pl Kn a c d e b g h) (Dg (K .ret) false) (fun i j=>J4 (K (.exit 0)) i j c d e b g h):=by kernel_rfl
theorem ayv (α:Type)(K:KT α):∀ (n:Nat) (b:Int) (c d:ae) (e:Int) (a:ae) (g h:Int),se α a (Dg (K .ret) false) (fun i j=>J4 (K (.exit 0)) i j c d e a g h) n b=Pl (aK (az Pg Ek2 sh7 zN) Bn K n) b c d e a g h:=by
 intro n
 induction n with
 | zero=>intros;rfl
 | succ n ih=>intro b c d e a g h;exact (congrArg (fun kn=>D8 α a b kn (Dg (K .ret) false) (fun i j=>J4 (K (.exit 0)) i j c d e a g h)) (funext fun b=>ih b c d e a g h)).trans (awR α K (aK (az Pg Ek2 sh7 zN) Bn K n) b c d e a g h).symm
theorem axk:∀ (α:Type) (K:KT α),ad1 mO α K=Pb.unc fun σ=>aK (az Pg Ek2 sh7 zN) Bn K aG σ:=aY (fun α K=>funext fun a=>funext fun b=>funext fun c=>funext fun d=>funext fun e=>funext fun g=>funext fun h=>ayv α K aG a b c d e g h)
def ayW:ag:=ag.sub [1,0] (emb ac7)
abbrev Qv:Type 1:=(α:Type)->ae->ae->ae->(Op α)->(Bool->Op α)->Op α
def U7 (α:Type)(b c a:ae)(k1:Op α)(k2:Bool->Op α):Op α:=
 Q3 α b c a
 (fun d=>cK (!d)
 (k1)
 (cK (decide (3 < ((List.length b:Nat):Int)))
 (cK (decide (((List.length b:Nat):Int)<=40))
 (k1)
 (cK (decide (2 < ((List.length a:Nat):Int)))
 (k1)
 (k2 (decide (2 < ((List.length a:Nat):Int))))))
 (cK (decide (2 < ((List.length a:Nat):Int)))
 (k1)
 (k2 (decide (2 < ((List.length a:Nat):Int)))))))
def Kd:Qv:=sld U7
def acU (v:Qv)(α:Type)(K:KT α):ae->ae->Int->ae->Int->Int->Op α:=fun a b d c e g=>v α a b c (Dg (K .ret) false) (fun h=>axy (K .normal) h a b d c e g)
theorem ay7:∀ (α:Type) (K:KT α),acU Kd α K=Pw.unc fun σ=>az Pg Ek2 sh7 ayW K σ:=aY (fun α K=>by kernel_rfl)
def avx (α:Type)(b c a:ae)(k1:Bool->Op α):Op α:=
 Kd α b c a
 (k1 false)
 (fun d=>mO α a
 (k1 false)
 (fun e g=>k1 true) 0)
def ah7:I2:=sld avx
def avF (v:I2)(α:Type)(k:RT α):ae->ae->Int->ae->Int->Int->Op α:=fun a b e c g h=>v α a b c (fun d=>bi k d)
def aFs:ag:=(ag.put (.m [⟨Pw,acU Kd⟩]) [1] (ag.put (.m [⟨Pb,ad1 mO⟩]) [1,1,0,1,0] (ag.put (.m [⟨Jy,OW ye⟩]) [1,1,0,1,0,0,1,0,0,1] (emb ac7))))
theorem azW:ak Pg 7 68 ⟨fx,avF ah7⟩:=iZ ek2 (ah Tryz.func7 (by kernel_rfl)) sh7 aFs ((an _ _).trans ((an _ _).trans ((an _ _).trans (aA _)))) (aL (by kernel_rfl) (aZ (td:=Bn) (by kernel_rfl) (aL (by kernel_rfl) (aD ac7) ⟨awJ,trivial⟩) ⟨axk,trivial⟩) ⟨ay7,trivial⟩) fun _ _=>by kernel_rfl
def avr:SG:=[(8,iS 4),(9,iS 4),(12,iS 2),(15,iS 2),(22,iS 2),(25,iS 2),(31,iS 4),(32,iS 4)]
def aDY:TG:=[tT 0 [1,2,4,5],tT 1 [1,2,4,5,6,7],tT 2 [2,4,5,6,7,10],tT 3 [4,5,6,7],tT 4 [4,5,6,7],tT 5 [4,5]]
def akX:ap:=aw Pg Tryz.f105 aDY aC
def Dv:PT St:=pS [sl 1 (aV false [(cD dB)]),sP 2,sP 4,sP 5,sP 6,sP 7] [au 2 (xs 4),au 4 (xs 4),au 5 (xs 4),au 6 (xs 4),au 7 (xs 4)]
def aDP {β:Type}(g:St->β):Bool->I20 β:=Dv.unc g
def ahf:PT St:=pS [sP 4,sP 5,sP 6,sP 7] [au 4 (xs 4),au 5 (xs 4),au 6 (xs 4),au 7 (xs 4)]
def adl {β:Type}(g:St->β):I16 β:=ahf.unc g
def ZL:PT (List RV):=pRs [pR true [rD (dI .i64),rD (dI .i64),rD (dI .i64),rD (dI .i64)],pR true [rD (dI .i64),rD (dI .i64),rD (dI .i64),rD (dI .i64)]]
def aaU {β:Type}(g:List RV->β):I8 β:=ZL.unc g
def aep:ag:=ag.sub [1,1,0] (emb akX)
abbrev Fp:Type 1:=(α:Type)->Bool->Int->Int->Int->Int->Int->Int->Int->Int->(I4 (Op α))->Op α
def Hz (α:Type)(e:Bool)(a b c d g h i j:Int)(k1:I4 (Op α)):Op α:=
 cK e
 (dG α a b
 (fun l=>dG α a b
 (fun m=>k1 l h m j)))
 (dG α c d
 (fun o=>dG α c d
 (fun p=>k1 g o i p)))
def wW:Fp:=sld Hz
def M2 (v:Fp)(α:Type)(K:KT α):Bool->I20 (Op α):=fun a b c d e g h i j l m o p q r s t w z A B=>v α a b c d e r t w A (fun C D F G=>adl (K .normal) g h i j l m o p q C s D F z G B)
theorem aiu:∀ (α:Type) (K:KT α),M2 wW α K=Dv.unc fun σ=>az Pg Ek2 avr aep K σ:=aY (fun α K=>by kernel_rfl)
abbrev ZB:Type 1:=(α:Type)->Int->Int->Int->Int->Bool->(I4 (Op α))->Op α
def RM (α:Type)(a b c d:Int)(e:Bool)(k1:I4 (Op α)):Op α:=
 wW α e a b c d b d a c
 (fun g h i j=>k1 g h i j)
def eg:ZB:=sld RM
def VI:PT (List DV):=pA [pV true [(dI .i64),(dI .i64),(dI .i64),(dI .i64)],pV false [dB]]
def T0 (v:ZB)(α:Type)(k:RT α):I4 (Bool->Op α):=fun a b c d e=>v α a b c d e (fun g h i j=>aaU k a g c h i b j d)
def atf:ag:=(ag.put (.m [⟨Dv,M2 wW⟩]) [1,1] (emb akX))
theorem ate:ak Pg 105 33 ⟨VI,T0 eg⟩:=iZ ek2 (ah Tryz.func105 (by kernel_rfl)) avr atf ((an _ _).trans (aA _)) (aL (by kernel_rfl) (aD akX) ⟨aiu,trivial⟩) fun _ _=>by kernel_rfl
def aF5:TG:=[tT 0 [0,1],tT 1 [0,1],tT 2 [0,1,12],tT 3 [1,5],tT 4 [1,5],tT 5 [1,5,6,7],tT 6 [1,5,6,7,24],tT 7 [1,5,6,7],tT 8 [1,5,6,7],tT 9 [1,5,6,7,29],tT 10 [1,6,9],tT 11 [1,6,8],tT 12 [1,6,10],tT 13 [1,6,8],tT 14 [1,6,8,11],tT 15 [1,6,8,11,59],tT 17 [1,6,8,11,62],tT 18 [1,6,8,11],tT 19 [1,6,8,11],tT 16 [1,6,8,11],tT 20 [4]]
def aHX:TG:=[tT 6 [1,5,6,7],tT 15 [1,6,8,11]]
def zn:ap:=aw Pg Tryz.f287 aF5 aHX
def nr:OT:=tdC (ag.sub [1,1,1,1,0,0] (emb zn))
def od:OT:=tdC (ag.sub [1,1,1,1,1,1,1,0,1,0] (emb zn))
def BP:PT St:=pS [sI 0,sl 1 (aV false [(cD dB)])] []
def aEb {β:Type}(g:St->β):Int->Bool->β:=BP.unc g
def al5:PT St:=pS [sl 1 (aV false [(cD dB)]),sI 5] []
def agw {β:Type}(g:St->β):Bool->Int->β:=al5.unc g
def nY:PT St:=pS [sl 1 (aV false [(cD dB)]),sI 5,sI 6,sI 7] []
def A8 {β:Type}(g:St->β):Bool->Int->Int->Int->β:=nY.unc g
def afp:PT St:=pS [sl 1 (aV false [(cD dB)]),sI 5,sI 6,sI 7,sl 24 (aV false [(cD dB)])] []
def tv {β:Type}(g:St->β):Bool->Int->Int->Int->Bool->β:=afp.unc g
def acz:PT St:=pS [sl 1 (aV false [(cD dB)]),sI 6,sI 8] []
def agc {β:Type}(g:St->β):Bool->Int->Int->β:=acz.unc g
def Ch:PT St:=pS [sl 1 (aV false [(cD dB)]),sI 6,sI 8,sI 11] []
def D0 {β:Type}(g:St->β):Bool->Int->Int->Int->β:=Ch.unc g
def alU:PT St:=pS [sl 1 (aV false [(cD dB)]),sI 6,sI 8,sI 11,sl 59 (aV false [(cD dB)])] []
def tx {β:Type}(g:St->β):Bool->Int->Int->Int->Bool->β:=alU.unc g
noncomputable abbrev Lk3:List bE:=⟨69,10,[⟨bq,ajy cy⟩]⟩::⟨271,43,[⟨bq,SD yw⟩]⟩::⟨250,14,[⟨aU,V0 n6⟩]⟩::⟨272,5,[⟨aU,QP nw⟩]⟩::⟨124,19,[⟨fO,XI yz⟩]⟩::⟨100,5,[⟨aU,R3 sb⟩]⟩::⟨121,5,[⟨aU,Vp JP⟩]⟩::⟨123,19,[⟨fO,UY yB⟩]⟩::⟨68,26,[⟨fO,acq ML⟩]⟩::⟨151,15,[⟨ba,Xd yH⟩]⟩::⟨168,10,[⟨bq,Yo cB⟩]⟩::⟨198,25,[⟨aU,SQ eD⟩]⟩::⟨260,6,[⟨Ao,Tk BV⟩]⟩::⟨197,10,[⟨bq,Wk jS⟩]⟩::⟨84,15,[⟨akb,alV Zd⟩]⟩::⟨116,5,[⟨aU,XD BR⟩]⟩::⟨117,5,[⟨aU,Zp Co⟩]⟩::⟨148,11,[⟨la,Rn DP⟩]⟩::⟨149,19,[⟨fO,Qu yQ⟩]⟩::⟨77,5,[⟨aU,ajV re⟩]⟩::⟨78,5,[⟨aU,adi yR⟩]⟩::⟨79,5,[⟨aU,al9 CP⟩]⟩::⟨76,19,[⟨fO,agL Lk⟩]⟩::⟨244,15,[⟨cX,PZ ml⟩]⟩::⟨281,26,[⟨bq,W8 jn⟩]⟩::⟨99,5,[⟨aU,aee Ly⟩]⟩::⟨253,32,[⟨zR,Xq xH⟩]⟩::⟨221,17,[⟨bq,Xr my⟩]⟩::⟨251,21,[⟨Va,Ya rA⟩]⟩::⟨217,17,[⟨dY,RD JZ⟩]⟩::⟨227,17,[⟨dY,ZC IM⟩]⟩::⟨105,33,[⟨VI,T0 eg⟩]⟩::⟨136,25,[⟨S3,TU ou⟩]⟩::⟨119,36,[⟨qW,Rg jy⟩]⟩::⟨7,68,[⟨fx,avF ah7⟩]⟩::⟨10,17,[⟨fx,ahk yT⟩]⟩::Lk2
theorem ak3:bJ Lk3 fun c=>bJ c.l (ak Pg c.f c.nt):=⟨⟨axW,trivial⟩,⟨aqD,trivial⟩,⟨asW,trivial⟩,⟨auc,trivial⟩,⟨aoZ,trivial⟩,⟨an8,trivial⟩,⟨as7,trivial⟩,⟨arf,trivial⟩,⟨aza,trivial⟩,⟨aq5,trivial⟩,⟨aoF,trivial⟩,⟨amO,trivial⟩,⟨apO,trivial⟩,⟨anq,trivial⟩,⟨ayu,trivial⟩,⟨asc,trivial⟩,⟨aro,trivial⟩,⟨aup,trivial⟩,⟨am4,trivial⟩,⟨azh,trivial⟩,⟨awM,trivial⟩,⟨azC,trivial⟩,⟨awf,trivial⟩,⟨aq6,trivial⟩,⟨arQ,trivial⟩,⟨axf,trivial⟩,⟨at3,trivial⟩,⟨amE,trivial⟩,⟨aol,trivial⟩,⟨anX,trivial⟩,⟨apv,trivial⟩,⟨ate,trivial⟩,⟨ape,trivial⟩,⟨aoz,trivial⟩,⟨azW,trivial⟩,⟨ayw,trivial⟩,ak2⟩
def Ek3:aE:=aE.ofIO Lk3 bw io0
theorem ek3:Ek3.Ok Pg:=aE.ofIO_ok aO ak3
def qf:ag:=ag.sub [1,1,1,1,1,1,1,0,1,0,0] (emb zn)
def jV (α:Type)(d:Bool)(c a b:Int)(kn:Int->Int->Op α)(k1:Int->Int->Bool->Op α):Op α:=
 cK (decide (b < c))
 (cK d
 (cy α (w64 (a*a)) 1073741824
 (fun e=>kn e (w64 (b+1))))
 (dC α (w64 (a*a)) 1073741824
 (fun g=>kn g (w64 (b+1)))))
 (k1 a b (decide (b < c)))
def gF (α:Type)(a:Bool)(b:Int)(k1:Int->Int->Bool->Op α):Nat->Int->Int->Op α
 | 0,_,_=>none
 | n+1,c,d=>jV α a b c d (gF α a b k1 n) k1
def yA (α:Type)(a:Bool)(b:Int)(k1:Int->Int->Bool->Op α)(c d:Int):Op α:=gF α a b k1 aG c d
abbrev Fv:Type 1:=(α:Type)->Bool->Int->(Int->Int->Bool->Op α)->Int->Int->Op α
def eX:Fv:=sld yA
def NS (v:Fv)(α:Type)(K:KT α):Bool->Int->Int->Int->Op α:=fun a b c d=>v α a b (fun e g h=>tx (K (.exit 2)) a b e g h) c d
theorem aet (α:Type)(K:KT α)(Kn:SK α)(a:Bool)(b c d:Int):D0 (fun σ=>az Pg Ek3 aN qf (bM (fun σ=>br od σ Kn) K) σ) a b c d=jV α a b c d (fun c d=>D0 Kn a b c d) (fun e g h=>tx (K (.exit 2)) a b e g h):=by kernel_rfl
theorem alA (α:Type)(K:KT α):∀ (n:Nat) (a:Bool) (b c d:Int),gF α a b (fun e g h=>tx (K (.exit 2)) a b e g h) n c d=D0 (aK (az Pg Ek3 aN qf) od K n) a b c d:=by
 intro n
 induction n with
 | zero=>intros;rfl
 | succ n ih=>intro a b c d;exact (congrArg (fun kn=>jV α a b c d kn (fun e g h=>tx (K (.exit 2)) a b e g h)) (funext fun c=>funext fun d=>ih a b c d)).trans (aet α K (aK (az Pg Ek3 aN qf) od K n) a b c d).symm
theorem ajH:∀ (α:Type) (K:KT α),NS eX α K=Ch.unc fun σ=>aK (az Pg Ek3 aN qf) od K aG σ:=aY (fun α K=>funext fun a=>funext fun b=>funext fun c=>funext fun d=>alA α K aG a b c d)
def aaH:ag:=ag.sub [1,1,1,1,1,1,0] (emb zn)
abbrev F3:Type 1:=(α:Type)->Bool->Int->Int->(Int->Op α)->Op α
def xL (α:Type)(e:Bool)(c d:Int)(k1:Int->Op α):Op α:=
 cK e
 (dC α c d
 (fun b=>cy α (w64 (b*b)) 2147483648
 (fun g=>k1 (w64 ((w64 (1073741824 - b))+g)))))
 (cy α c d
 (fun a=>dC α (w64 (a*a)) 2147483648
 (fun h=>cy α (w64 ((w64 (a*a))*a)) 6917529027641081856
 (fun i=>k1 (w64 ((w64 ((w64 (1073741824 - a))+h)) - i))))))
def ff:F3:=sld xL
def MY (v:F3)(α:Type)(K:KT α):Bool->Int->Int->Int->Op α:=fun a b c d=>v α a b d (fun e=>agc (K .normal) a c e)
theorem akr:∀ (α:Type) (K:KT α),MY ff α K=nY.unc fun σ=>az Pg Ek3 aN aaH K σ:=aY (fun α K=>by kernel_rfl)
def qj:ag:=ag.sub [1,1,1,1,0,0,0] (emb zn)
def nX (α:Type)(b c a:Int)(kn:Int->Int->Op α)(k1:Int->Int->Bool->Op α):Op α:=
 cK (decide ((w64 (1048576*a)) < b))
 (kn (w64 (c+1)) (w64 (2*a)))
 (k1 c a (decide ((w64 (1048576*a)) < b)))
def lv (α:Type)(a:Int)(k1:Int->Int->Bool->Op α):Nat->Int->Int->Op α
 | 0,_,_=>none
 | n+1,b,c=>nX α a b c (lv α a k1 n) k1
def xd (α:Type)(a:Int)(k1:Int->Int->Bool->Op α)(b c:Int):Op α:=lv α a k1 aG b c
def px:gp:=sld xd
def Nu (v:gp)(α:Type)(K:KT α):Bool->Int->Int->Int->Op α:=fun b a c d=>v α a (fun e g h=>tv (K (.exit 0)) b a e g h) c d
theorem acQ (α:Type)(K:KT α)(Kn:SK α)(d:Bool)(a b c:Int):A8 (fun σ=>az Pg Ek3 aN qj (bM (fun σ=>br nr σ Kn) K) σ) d a b c=nX α a b c (fun b c=>A8 Kn d a b c) (fun e g h=>tv (K (.exit 0)) d a e g h):=by kernel_rfl
theorem ab8 (α:Type)(K:KT α):∀ (n:Nat) (d:Bool) (a b c:Int),lv α a (fun e g h=>tv (K (.exit 0)) d a e g h) n b c=A8 (aK (az Pg Ek3 aN qj) nr K n) d a b c:=by
 intro n
 induction n with
 | zero=>intros;rfl
 | succ n ih=>intro d a b c;exact (congrArg (fun kn=>nX α a b c kn (fun e g h=>tv (K (.exit 0)) d a e g h)) (funext fun b=>funext fun c=>ih d a b c)).trans (acQ α K (aK (az Pg Ek3 aN qj) nr K n) d a b c).symm
theorem ahz:∀ (α:Type) (K:KT α),Nu px α K=nY.unc fun σ=>aK (az Pg Ek3 aN qj) nr K aG σ:=aY (fun α K=>funext fun a=>funext fun b=>funext fun c=>funext fun d=>ab8 α K aG a b c d)
def ama:ag:=ag.sub [1,1,0] (emb zn)
abbrev qq:Type 1:=(α:Type)->Int->Bool->(Int->Op α)->Op α
def G2 (α:Type)(a:Int)(b:Bool)(k1:Int->Op α):Op α:=
 cK b
 (dC α (w64 ((w64 (256*a))*62831853)) 10000000
 (fun c=>k1 c))
 (cy α (w64 ((w64 (256*a))*62831854)) 10000000
 (fun d=>k1 d))
def po:qq:=sld G2
def N4 (v:qq)(α:Type)(K:KT α):Int->Bool->Op α:=fun b a=>v α b a (fun c=>agw (K .normal) a c)
theorem agb:∀ (α:Type) (K:KT α),N4 po α K=BP.unc fun σ=>az Pg Ek3 aN ama K σ:=aY (fun α K=>by kernel_rfl)
def Ib (α:Type)(c:Int)(a:Bool)(k1:Int->Op α):Op α:=
 po α c a
 (fun b=>px α b
 (fun d e i=>ff α a b e
 (fun g=>eX α a d
 (fun h j l=>k1 h) g 0)) 0 1)
def mQ:qq:=sld Ib
def Yj:PT (List DV):=pA [vI,pV false [dB]]
def QS (v:qq)(α:Type)(k:RT α):Int->Bool->Op α:=fun a b=>v α a b (fun c=>aQ k c)
def ano:ag:=(ag.put (.m [⟨BP,N4 po⟩]) [1,1] (ag.put (.m [⟨nY,Nu px⟩]) [1,1,1,1,0,0] (ag.put (.m [⟨nY,MY ff⟩]) [1,1,1,1,1,1] (ag.put (.m [⟨Ch,NS eX⟩]) [1,1,1,1,1,1,1,0,1,0] (emb zn)))))
theorem asw:ak Pg 287 72 ⟨Yj,QS mQ⟩:=iZ ek3 (ah Tryz.func287 (by kernel_rfl)) aN ano ((an _ _).trans ((an _ _).trans ((an _ _).trans ((an _ _).trans (aA _))))) (aL (by kernel_rfl) (aZ (td:=nr) (by kernel_rfl) (aL (by kernel_rfl) (aZ (td:=od) (by kernel_rfl) (aD zn) ⟨ajH,trivial⟩) ⟨akr,trivial⟩) ⟨ahz,trivial⟩) ⟨agb,trivial⟩) fun _ _=>by kernel_rfl
end
end Go.AM.K
