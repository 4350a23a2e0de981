/- Things that the kernel cannot look into. -/
import Derived.Test.YtffcelhcekillaaGreatKMa
namespace Go.AM.K
noncomputable def sld {T:Type 1}(x:T):T:=(Classical.choice (⟨⟨x,rfl⟩⟩:Nonempty {y:T // y=x})).1
theorem af {T:Type 1}(x:T):sld x=x:=(Classical.choice (⟨⟨x,rfl⟩⟩:Nonempty {y:T // y=x})).2
theorem aZ {T:Type 1}{x:T}{X:Type->Type}{Y:Type->Type}{F:T->(α:Type)->X α->Y α}{G:(α:Type)->X α->Y α}(h:∀ α K,F x α K=G α K):∀ α K,F (sld x) α K=G α K:=by
 rw [af];exact h
theorem ait {P:Program}{E:aF}{f nt:Nat}{tr tl:List (Nat × bX)}{ac:aq}{rs:List dZ}{T:Type 1}{b:T}{pa:PT (List DV)}{Fn:T->(α:Type)->(List RV->Option α)->pa.Cur (Option α)}
  (hE:E.Ok P) (hm:P.follows .mixedOrders=true) (hf:tI P f nt tr tl ac rs) (sh:List (Nat × List Sh)) (cm:ah) (em:cm.erase=ac) (gm:cm.Good P E sh)
  (fm:∀ (α:Type) (k:List RV->Option α),Fn b α k=pa.unc fun ds=>fnM P E sh cm rs k ds):ak P f nt ⟨pa,Fn (sld b)⟩:=by
 rw [af];exact auS hE hm hf ⟨⟨sh,cm,em,gm,fm⟩⟩
end Go.AM.K
