/- Chapter 1: unit numbers: what the program and the document say is one. -/
import Derived.Test.YtehamglokkjipaaGreatQMB3
namespace Go.AM.K.Mb
set_option linter.unusedVariables false
set_option linter.unusedSimpArgs false
variable {α:Type}
def uX (n d:Int):Int:=arcX (uLo n d) (uHi n d)
def uY (n d:Int):Int:=arcY (uLo n d) (uHi n d)
def uR (n d:Int):Int:=arcR (uLo n d) (uHi n d)
theorem rdv_bd {c:Int}(h1:-67108864<=c)(h2:c<=67108864):-1048576<=rdv c 64/\rdv c 64<=1048576:=by unfold rdv;omega
theorem uhi_lo {n d:Int}(hd:1<=d):uLo n d<=uHi n d/\uHi n d<=uLo n d+1:=by
 unfold uLo uHi
 refine⟨fl_le_ce hd,?_⟩
 unfold cdv
 have h4:=Int.emod_add_mul_ediv (-(n*4194304)) d
 have h5:=Int.emod_nonneg (-(n*4194304)) (show d ≠ 0 by omega)
 have h6:=Int.emod_lt_of_pos (-(n*4194304)) (show 0 < d by omega)
 have h1:=Int.emod_add_mul_ediv (n*4194304) d
 have h2:=Int.emod_nonneg (n*4194304) (show d ≠ 0 by omega)
 have h3:=Int.emod_lt_of_pos (n*4194304) (show 0 < d by omega)
 have key:d*(-(-(n*4194304) / d)) < d*(n*4194304 / d+2):=by rw [Int.mul_neg,Int.mul_add];omega
 have:=Int.lt_of_mul_lt_mul_left key (by omega)
 omega
theorem u_bd {n d:Int}(hd:1<=d):(-1048576<=uX n d/\uX n d<=1048576)/\(-1048576<=uY n d/\uY n d<=1048576)/\0<=uR n d/\uR n d<=4:=by
 have hb:=dir_bd ((uLo n d+uHi n d) / 2)
 have hu:=uhi_lo (n:=n) hd
 refine⟨rdv_bd hb.h1 hb.h2,rdv_bd hb.h3 hb.h4,?_⟩
 unfold uR arcR
 split
 ·omega
 ·unfold cdv;omega
theorem u_ok {n d:Int}(hd:1<=d):okB (uX n d) (uY n d) (uR n d)=true:=by
 have:=u_bd (n:=n) hd
 unfold okB;exact decide_eq_true ⟨⟨by omega,by omega⟩,⟨by omega,by omega⟩,by omega,by omega⟩
theorem u_in {n d:Int}(h1:-1000000000<=n)(h2:n<=1000000000)(hd:1<=d):-4503599627370496<=uLo n d/\uLo n d<=4503599627370496:=by
 unfold uLo;exact div_bd hd (by omega) (by omega)
theorem unit_prog {n d:Int}(h1:-1000000000<=n)(h2:n<=1000000000)(hd:1<=d)(hd2:d<=1000000000){k:Nat->Nat->Int->Int->Option α} :
  f105_0 α n d k=k (FloatKind.nearest .f64 (uX n d)) (FloatKind.nearest .f64 (uY n d)) (uR n d) 0:=by
 have hu:=uhi_lo (n:=n) hd
 have hi:=u_in h1 h2 hd
 have hh:uHi n d<=4503599627370496:=by
  have:=div_bd (n:=-(n*4194304)) hd (by omega) (by omega)
  unfold uHi cdv;omega
 rw [f105_eq,if_pos ⟨⟨h1,h2⟩,hd,hd2⟩,f138_eq hi.1 hh hu.1,if_pos]
 ·rfl
 ·exact u_ok hd
theorem dir_turn {m q:Int}:dir (m - q*4194304)=dir m:=by
 have e:(m - q*4194304) % 4194304=m % 4194304:=by omega
 unfold dir
 rw [e]
theorem unit_doc {n d:Int}(h1:-1000000000<=n)(h2:n<=1000000000)(hd:1<=d)(hd2:d<=1000000000){k:Int->Int->Int->Int->Option α} :
  f106_0 α n d k=k (uX n d) (uY n d) (uR n d) 0:=by
 have hu:=uhi_lo (n:=n) hd
 have hi:=u_in h1 h2 hd
 simp only [f106_0,f106_0g,f57_eq,f140_0,f140_0g]
 rw [decide_eq_true ⟨h1,h2⟩,Bool.not_true,cK_false,decide_eq_true ⟨hd,hd2⟩,Bool.not_true,cK_false,w64_in (n:=n*4194304) (by omega) (by omega),f76_eq (by omega) (by omega) (by omega) (by omega),f77_eq (by omega) (by omega) (by omega) (by omega)]
 change f76_0 α (uLo n d) 4194304 (fun (x5:Int)=>f158_0 α (w64 (uLo n d - (w64 (x5*4194304)))) (w64 (uHi n d - (w64 (x5*4194304)))) (fun (x6:Int) (x7:Int) (x8:Int) (x9:Int)=>k x6 x7 x8 x9))=_
 rw [f76_eq (by decide) (by decide) (by omega) (by omega)]
 obtain⟨q,hq⟩:∃ q,q=uLo n d / 4194304:=⟨_,rfl⟩
 have e1:0<=uLo n d - q*4194304/\uLo n d - q*4194304 < 4194304:=by omega
 rw [<- hq,w64_in (n:=q*4194304) (by omega) (by omega),w64_in (n:=uLo n d - q*4194304) (by omega) (by omega),w64_in (n:=uHi n d - q*4194304) (by omega) (by omega)]
 simp only [f158_0,f158_0g,f57_eq]
 rw [decide_eq_true (show (-1099511627776:Int)<=uLo n d - q*4194304/\uLo n d - q*4194304<=1099511627776 by omega),Bool.not_true,cK_false,decide_eq_true (show (-1099511627776:Int)<=uHi n d - q*4194304/\uHi n d - q*4194304<=1099511627776 by omega),Bool.not_true,cK_false,decide_eq_false (by omega),cK_false]
 rw [w64_in (n:=uLo n d - q*4194304+(uHi n d - q*4194304)) (by omega) (by omega),f76_eq (by decide) (by decide) (by omega) (by omega),f167_eq]
 have em:(uLo n d - q*4194304+(uHi n d - q*4194304)) / 2=(uLo n d+uHi n d) / 2 - q*4194304:=by omega
 rw [em,dir_turn]
 have hb:=dir_bd ((uLo n d+uHi n d) / 2)
 have hb1:=hb.h1;have hb2:=hb.h2;have hb3:=hb.h3;have hb4:=hb.h4
 obtain⟨b1,g1⟩:=f147_eq (α:=α) (n:=(dir ((uLo n d+uHi n d) / 2)).1) (by omega) (by omega) (k:=fun x8 x9=>f147_0 α (dir ((uLo n d+uHi n d) / 2)).2 64 (fun (x10:Int) (x11:Bool)=>f77_0 α (w64 (11*(w64 (uHi n d - q*4194304 - ((uLo n d+uHi n d) / 2 - q*4194304))))) 7
           (fun (x12:Int)=>J158_0_0 α ((uLo n d+uHi n d) / 2 - q*4194304) (uLo n d - q*4194304) (uHi n d - q*4194304)
            (f59_0 α x8 x10 0
             (fun (x26:Int) (x27:Int) (x28:Int) (x29:Int)=>k x26 x27 x28 x29))
            (fun (x24:Bool)=>f59_0 α x8 x10 (w64 (2+x12))
             (fun (x30:Int) (x31:Int) (x32:Int) (x33:Int)=>k x30 x31 x32 x33)))))
 refine g1.trans ?_
 obtain⟨b2,g2⟩:=f147_eq (α:=α) (n:=(dir ((uLo n d+uHi n d) / 2)).2) (by omega) (by omega) (k:=fun x10 x11=>f77_0 α (w64 (11*(w64 (uHi n d - q*4194304 - ((uLo n d+uHi n d) / 2 - q*4194304))))) 7
           (fun (x12:Int)=>J158_0_0 α ((uLo n d+uHi n d) / 2 - q*4194304) (uLo n d - q*4194304) (uHi n d - q*4194304)
            (f59_0 α (rdv (dir ((uLo n d+uHi n d) / 2)).1 64) x10 0
             (fun (x26:Int) (x27:Int) (x28:Int) (x29:Int)=>k x26 x27 x28 x29))
            (fun (x24:Bool)=>f59_0 α (rdv (dir ((uLo n d+uHi n d) / 2)).1 64) x10 (w64 (2+x12))
             (fun (x30:Int) (x31:Int) (x32:Int) (x33:Int)=>k x30 x31 x32 x33))))
 refine g2.trans ?_
 have hx:=rdv_bd hb.h1 hb.h2
 have hy:=rdv_bd hb.h3 hb.h4
 rw [show uHi n d - q*4194304 - ((uLo n d+uHi n d) / 2 - q*4194304)=uHi n d - (uLo n d+uHi n d) / 2 by omega]
 rw [w64_in (n:=uHi n d - (uLo n d+uHi n d) / 2) (by omega) (by omega),w64_in (n:=11*(uHi n d - (uLo n d+uHi n d) / 2)) (by omega) (by omega),f77_eq (by decide) (by decide) (by omega) (by omega)]
 have hc:=cdv_bd (n:=11*(uHi n d - (uLo n d+uHi n d) / 2)) (by omega)
 rw [w64_in (n:=2+cdv (11*(uHi n d - (uLo n d+uHi n d) / 2)) 7) (by omega) (by omega)]
 have hok:=u_ok (n:=n) hd
 simp only [J158_0_0,J158_0_0g,f91_eq (show (0:Int) < 1048576 by decide) (by decide)]
 have hR:uR n d=if uLo n d=uHi n d/\uLo n d % 1048576=0 then 0 else 2+cdv (11*(uHi n d - (uLo n d+uHi n d) / 2)) 7:=rfl
 have hX:uX n d=rdv (dir ((uLo n d+uHi n d) / 2)).1 64:=rfl
 have hY:uY n d=rdv (dir ((uLo n d+uHi n d) / 2)).2 64:=rfl
 by_cases h4:uLo n d=uHi n d
 ·have g:(uLo n d - q*4194304 == uHi n d - q*4194304)=true:=by rw [h4];exact beq_self_eq_true _
  rw [g,cK_true]
  by_cases h5:uLo n d % 1048576=0
  ·rw [if_pos ⟨h4,h5⟩] at hR
   rw [show ((uLo n d+uHi n d) / 2 - q*4194304) % 1048576=0 by omega,beq_self_eq_true,cK_true]
   rw [hX,hY,hR] at hok ⊢
   exact f59_ok hok
  ·rw [if_neg (fun h=>h5 h.2)] at hR
   rw [beq_eq_false_iff_ne.2 (show ((uLo n d+uHi n d) / 2 - q*4194304) % 1048576 ≠ 0 by omega),cK_false]
   rw [hX,hY,hR] at hok ⊢
   exact f59_ok hok
 ·have g:(uLo n d - q*4194304 == uHi n d - q*4194304)=false:=beq_eq_false_iff_ne.2 (by omega)
  rw [if_neg (fun h=>h4 h.1)] at hR
  rw [g,cK_false]
  rw [hX,hY,hR] at hok ⊢
  exact f59_ok hok
end Go.AM.K.Mb
