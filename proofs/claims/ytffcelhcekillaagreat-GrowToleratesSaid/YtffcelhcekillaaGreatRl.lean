/- Printed by KGen. -/
import Derived.Test.YtffcelhcekillaaGreatRh
import Derived.Test.YtffcelhcekillaaGreatRC
namespace Go.AM.K
open Go.Proofs
set_option maxRecDepth 100000
set_option linter.unusedVariables false
noncomputable section
abbrev nt3:Nat:=39
def sh3:SG:=[(11,[.sl,.sl,.int .i64,.sl,.int .i64,.int .i64]),(19,[.sl,.sl,.int .i64,.sl,.int .i64,.int .i64]),(26,[.sl,.sl,.int .i64,.sl,.int .i64,.int .i64])]
def tr3:TG:=[tT 0 [1,2],tT 1 [1,2,10],tT 2 [4],tT 3 [1,2,17],tT 4 [4],tT 5 [1,2,5,6],tT 6 [5,6,7,8],tT 7 [4]]
def ac3:aq:=aw Pg Tryz.f3 tr3 aC
noncomputable abbrev aD9:List bA:=⟨6,nt6,[⟨avD,avF aqs⟩]⟩::⟨9,33,[⟨yA,avp abm⟩]⟩::ayU
theorem aJg:bG aD9 fun c=>bG c.l (ak Pg c.f c.nt):=⟨⟨aAc,trivial⟩,⟨aBn,trivial⟩,aCj⟩
def aI2:aE:=aE.ofIO aD9 bt io0
theorem aJT:aI2.Ok Pg:=aE.ofIO_ok aN aJg
abbrev avg:Type 1:=(α:Type)->ae->ae->ae->Int->Int->Int->(Bool->Op α)->Op α
def avQ (α:Type)(a b c:ae)(e g d:Int)(k1:Bool->Op α):Op α:=
 aqs α
 (alr α a b c
 (fun h=>cK (!h)
 (k1 true)
 (cL α d 5 50
 (fun i=>cK i
 (k1 true)
 (FJ α a b c
 (fun j l m=>abm α j l m e g d
 (fun o p=>E2 α a b c e g d
 (fun q r=>cK (p == r)
 (k1 (o == q))
 (k1 false)))))))))
def alX:avg:=sld avQ
def awc (v:avg)(α:Type)(k:RT α):ae->ae->Int->ae->Int->Int->Int->Op α:=fun a b i c d e g=>v α a b c d e g (fun h=>bi k h)
theorem aDP:ak Pg 3 nt3 ⟨yA,awc alX⟩:=iP aJT ac3 (ah Tryz.func3 (by kernel_rfl)) sh3 fun _ _=>by kernel_rfl
end
end Go.AM.K
