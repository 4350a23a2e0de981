/- Lines of a text and where the numbers of a reading stand, as the printed texts name them. -/
import Derived.Test.YtnhkllkecbmchaaGreatDoorKMa
import Derived.Test.YtnhkllkecbmchaaGreatDoorTLn
import Derived.Test.YtnhkllkecbmchaaGreatDoorTPt
namespace Go.AM.K
open Go.Proofs PT
abbrev Tq176:Type:=ByteArray->Option (List (List Value))
def pq176:PT (List DC):=PT.ofL [(dMr [dS] 0)]
def q176:Tq176:=qLines
def qL:List DC->Option (List (List Value))
 | [.mref [.v (.string s)] 0]=>qLines s
 | _=>none
theorem qL_ok:∀ caps xs,qL caps=some xs->IterOk Tryz.prog 176 caps xs:=fun caps xs h=>by
 unfold qL at h
 split at h
 ·exact Tryz.lines_iter h
 ·cases h
theorem sqok176:SeqOk Tryz.prog ⟨176,pq176,q176⟩:=fun caps xs h=>by
 have e:q176=pq176.unc fun caps=>qL caps:=rfl
 simp only at h
 rw [e] at h
 rcases pq176.law caps with hl | hr
 ·rw [hl] at h;exact⟨qL_ok caps xs (by simpa using h),⟨Tryz.f176,Tryz.func176,by kernel_rfl,by kernel_rfl⟩⟩
 ·rw [hr] at h;cases h
theorem ptr87:PtrsOk Tryz.prog 87 [1000176]:=Tryz.lines_it
end Go.AM.K
