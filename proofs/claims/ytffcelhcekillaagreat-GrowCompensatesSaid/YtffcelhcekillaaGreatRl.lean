/- Printed by KGen. -/
import Derived.Test.YtffcelhcekillaaGreatRh
import Derived.Test.YtffcelhcekillaaGreatRC
namespace Go.AM.K
open Go.Proofs
set_option maxRecDepth 100000
set_option linter.unusedVariables false
noncomputable section
abbrev nt5:Nat:=67
def sh5:SG:=[(15,[.sl,.sl,.int .i64,.sl,.int .i64,.int .i64]),(23,[.sl,.sl,.int .i64,.sl,.int .i64,.int .i64]),(30,[.sl,.sl,.int .i64,.sl,.int .i64,.int .i64]),(45,[.sl,.sl,.int .i64,.sl,.int .i64,.int .i64]),(48,[.sl]),(50,[.sl]),(53,iS 3),(56,[.sl,.sl,.int .i64,.sl,.int .i64,.int .i64])]
def tr5:TG:=[tT 0 [1,2],tT 1 [1,2,14],tT 2 [4],tT 3 [1,2,21],tT 4 [4],tT 5 [1,2,5,6],tT 6 [2,5,6,7,8],tT 7 [2,5,8,42],tT 8 [4],tT 9 [2,5,44],tT 10 [4],tT 11 [2,5,9],tT 12 [9],tT 13 [10,12],tT 14 [4]]
def ac5:aq:=aw Pg Tryz.f5 tr5 aC
noncomputable abbrev aBt:List bC:=⟨6,nt6,[⟨avW,av3 aoN⟩]⟩::⟨16,73,[⟨yu,al9 Fk⟩]⟩::aw5
theorem aKN:bH aBt fun c=>bH c.l (ak Pg c.f c.nt):=⟨⟨aEG,trivial⟩,⟨azV,trivial⟩,aEC⟩
def aJY:aF:=aF.ofIO aBt bu io0
theorem aKa:aJY.Ok Pg:=aF.ofIO_ok aN aKN
abbrev avj:Type 1:=(α:Type)->ae->ae->Int->ae->Int->Int->Int->(Bool->Op α)->Op α
def avh (α:Type)(b a:ae)(e:Int)(c:ae)(g h i:Int)(k1:Bool->Op α):Op α:=
 aoN α
 (afg α b a c
 (fun m=>cK (!m)
 (k1 true)
 (cF α i 4 50
 (fun o=>cK o
 (k1 true)
 (yX α b a c
 (fun p q r=>Fk α p q e r g h i
 (fun j s=>Gk α b a e c g h i
 (fun t l=>cK (s != l)
 (k1 false)
 (cK (j != t)
 (k1 false)
 (cK (l != 0)
 (k1 true)
 (yX α b a c
 (fun d w z=>ixK d ((List.length a:Nat):Int) 3
 (stK d (Int.toNat ((List.length a:Nat):Int)) 2 1
 (EU α (List.set d (Int.toNat ((List.length a:Nat):Int)) (splice (cu d (Int.toNat ((List.length a:Nat):Int))) 2 [DC.v (.int .i64 j)])) w e z g h
 (fun A C D F B=>cK (B == 0)
 (k1 (A == 2))
 (k1 false))))))))))))))))
def aia:avj:=sld avh
def av8 (v:avj)(α:Type)(k:RT α):ae->ae->Int->ae->Int->Int->Int->Op α:=fun a b c d e g h=>v α a b c d e g h (fun i=>bi k i)
theorem aGr:ak Pg 5 nt5 ⟨yu,av8 aia⟩:=iP aKa ac5 (ag Tryz.func5 (by kernel_rfl)) sh5 fun _ _=>by kernel_rfl
end
end Go.AM.K
