/- Chapter 1, as far as the examples of chapter 2 need it: the root. -/
import Derived.Test.YtmcplmhohldpjaaGreatYW1
import Derived.Test.YtmcplmhohldpjaaGreatKNa
namespace Go.AM.K
set_option linter.unusedVariables false
set_option linter.unusedSimpArgs false
variable {α:Type}
theorem rH {n:Nat}(h:n < 288230376151711744){k:Int->Option α}:eF α (n:Int) k=k (isq n:Int):=by
 obtain⟨y,r,h1,h2,h3,h4⟩:=Jm (n:=(n:Int)) (by omega) (by omega)
 simp only [eF,af,PI,E5,af,Qn]
 have h1':(FloatKind.format .f64).sqrt (FloatKind.nearest .f64 (n:Int))=some y:=h1
 obtain⟨g1,g2⟩:=il h
 have g3:=XX h
 rw [h1']
 show ivK (f2i .f64 y .i64) _=_
 rw [h2]
 show kO α (n:Int) (fun x7 _=>kJ α (n:Int) (fun x13 _=>k x13) x7) r=_
 exact YG (s:=(isq n:Int)) (by omega) (by omega) (by exact_mod_cast g1) (by exact_mod_cast g2) h3 h4
end Go.AM.K
