/- Chapter 1: unit numbers: what the program and the document say is one. -/
import Derived.Test.YtehamglokkjipaaGreatQMB3
namespace Go.AM.K.Mb
set_option linter.unusedVariables false
set_option linter.unusedSimpArgs false
variable {α:Type}
def uX (n d:Int):Int:=arcX (uLo n d) (uHi n d)
def uY (n d:Int):Int:=arcY (uLo n d) (uHi n d)
def uR (n d:Int):Int:=arcR (uLo n d) (uHi n d)
theorem rdv_bd {c:Int}(h1:-67108864<=c)(h2:c<=67108864):-1048576<=rdv c 64/\rdv c 64<=1048576:=by unfold rdv;omega
theorem uhi_lo {n d:Int}(hd:1<=d):uLo n d<=uHi n d/\uHi n d<=uLo n d+1:=by
 unfold uLo uHi
 refine⟨fl_le_ce hd,?_⟩
 unfold cdv
 have h4:=Int.emod_add_mul_ediv (-(n*4194304)) d
 have h5:=Int.emod_nonneg (-(n*4194304)) (show d ≠ 0 by omega)
 have h6:=Int.emod_lt_of_pos (-(n*4194304)) (show 0 < d by omega)
 have h1:=Int.emod_add_mul_ediv (n*4194304) d
 have h2:=Int.emod_nonneg (n*4194304) (show d ≠ 0 by omega)
 have h3:=Int.emod_lt_of_pos (n*4194304) (show 0 < d by omega)
 have key:d*(-(-(n*4194304) / d)) < d*(n*4194304 / d+2):=by rw [Int.mul_neg,Int.mul_add];omega
 have:=Int.lt_of_mul_lt_mul_left key (by omega)
 omega
theorem u_bd {n d:Int}(hd:1<=d):(-1048576<=uX n d/\uX n d<=1048576)/\(-1048576<=uY n d/\uY n d<=1048576)/\0<=uR n d/\uR n d<=4:=by
 have hb:=dir_bd ((uLo n d+uHi n d) / 2)
 have hu:=uhi_lo (n:=n) hd
 refine⟨rdv_bd hb.h1 hb.h2,rdv_bd hb.h3 hb.h4,?_⟩
 unfold uR arcR
 split
 ·omega
 ·unfold cdv;omega
theorem u_ok {n d:Int}(hd:1<=d):okB (uX n d) (uY n d) (uR n d)=true:=by
 have:=u_bd (n:=n) hd
 unfold okB;exact decide_eq_true ⟨⟨by omega,by omega⟩,⟨by omega,by omega⟩,by omega,by omega⟩
theorem u_in {n d:Int}(h1:-1000000000<=n)(h2:n<=1000000000)(hd:1<=d):-4503599627370496<=uLo n d/\uLo n d<=4503599627370496:=by
 unfold uLo;exact div_bd hd (by omega) (by omega)
theorem unit_prog {n d:Int}(h1:-1000000000<=n)(h2:n<=1000000000)(hd:1<=d)(hd2:d<=1000000000){k:Nat->Nat->Int->Int->Option α} :
  f105_0 α n d k=k (FloatKind.nearest .f64 (uX n d)) (FloatKind.nearest .f64 (uY n d)) (uR n d) 0:=by
 have hu:=uhi_lo (n:=n) hd
 have hi:=u_in h1 h2 hd
 have hh:uHi n d<=4503599627370496:=by
  have:=div_bd (n:=-(n*4194304)) hd (by omega) (by omega)
  unfold uHi cdv;omega
 rw [f105_eq,if_pos ⟨⟨h1,h2⟩,hd,hd2⟩,f138_eq hi.1 hh hu.1,if_pos]
 ·rfl
 ·exact u_ok hd
theorem dir_turn {m q:Int}:dir (m - q*4194304)=dir m:=by
 have e:(m - q*4194304) % 4194304=m % 4194304:=by omega
 unfold dir
 rw [e]
end Go.AM.K.Mb
