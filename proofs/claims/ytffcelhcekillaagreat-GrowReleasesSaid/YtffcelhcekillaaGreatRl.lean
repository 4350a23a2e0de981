/- Printed by KGen. -/
import Derived.Test.YtffcelhcekillaaGreatRh
import Derived.Test.YtffcelhcekillaaGreatRC
namespace Go.AM.K
open Go.Proofs
set_option maxRecDepth 100000
set_option linter.unusedVariables false
noncomputable section
abbrev nt4:Nat:=69
def sh4:SG:=[(13,[.sl,.sl,.int .i64,.sl,.int .i64,.int .i64]),(17,[.sl,.sl,.int .i64,.sl,.int .i64,.int .i64]),(24,[.sl,.sl,.int .i64,.sl,.int .i64,.int .i64]),(38,iS 3),(39,iS 3),(49,[.sl,.sl,.int .i64,.sl,.int .i64,.int .i64]),(59,[.sl]),(63,iS 2),(65,iS 3)]
def tr4:TG:=[tT 0 [1],tT 1 [1,12],tT 2 [2],tT 3 [1,15],tT 4 [2],tT 5 [1,3,4,5],tT 6 [1,3,4,5,6,7,8],tT 7 [1,3,4,8,41],tT 8 [2],tT 9 [1,4,47],tT 10 [2],tT 11 [1,4,9,10],tT 12 [2]]
def ac4:ap:=aw Pg Tryz.f4 tr4 aC
noncomputable abbrev aHN:List bE:=⟨6,nt6,[⟨avO,au8 anw⟩]⟩::⟨12,34,[⟨fx,afu HB⟩]⟩::axD
theorem aJj:bJ aHN fun c=>bJ c.l (ak Pg c.f c.nt):=⟨⟨aD1,trivial⟩,⟨ayG,trivial⟩,aFn⟩
def aJ0:aE:=aE.ofIO aHN bw io0
theorem aIO:aJ0.Ok Pg:=aE.ofIO_ok aO aJj
abbrev avG:Type 1:=(α:Type)->ae->ae->Int->ae->Int->Int->(Bool->Op α)->Op α
def au6 (α:Type)(b c:ae)(d:Int)(a:ae)(e g:Int)(k1:Bool->Op α):Op α:=
 anw α
 (ah7 α b c a
 (fun p=>cK (!p)
 (k1 true)
 (yT α b c a
 (fun q r s=>HB α q r d s e g
 (fun h i j l t=>GM α b c d a e g
 (fun w z A B m=>cK (t != m)
 (k1 false)
 (cK (h != w)
 (k1 false)
 (cK (!((i == z) && ((j == A) && ((l == B) && true))))
 (k1 false)
 (cK (m != 0)
 (k1 true)
 (cK (h != 0)
 (k1 true)
 (yT α b c a
 (fun C D H=>BI α C D d
 (fun o F=>nc [o]
 (cK (F == 0)
 (gK (cj 9 72 ([]:ae) a) (FK α (([]:ae)++a) o e g i j l
 (fun G=>k1 (G == 0))))
 (k1 false)))))))))))))))
def agG:avG:=sld au6
def av6 (v:avG)(α:Type)(k:RT α):ae->ae->Int->ae->Int->Int->Op α:=fun a b c d e g=>v α a b c d e g (fun h=>bi k h)
theorem aCN:ak Pg 4 nt4 ⟨fx,av6 agG⟩:=iP aIO ac4 (ah Tryz.func4 (by kernel_rfl)) sh4 fun _ _=>by kernel_rfl
end
end Go.AM.K
