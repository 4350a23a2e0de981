/- Chapter 2: balls of whole numbers read and rounded; lengths; lists of balls. -/
import Derived.Test.YtmcplmhohldpjaaGreatYW0
import Derived.Test.YtmcplmhohldpjaaGreatYW4
import Derived.Test.YtmcplmhohldpjaaGreatKNa
import Derived.Test.YtmcplmhohldpjaaGreatRe
namespace Go.AM.K
open Ieee
set_option linter.unusedVariables false
set_option linter.unusedSimpArgs false
set_option linter.unusedSectionVars false
variable {α:Type}
def near (n d:Int):Int:=(2*n+d) / (2*d)
theorem isWhole_num {n:Int}(h:n.natAbs < 9007199254740992){k:Bool->Option α}:f186_0 α (FloatKind.nearest .f64 n) k=k true:=by
 obtain⟨s,m,i,h1,h2,h3,h4,h5⟩:=whole_small h
 obtain⟨mM,iM,e4,e5,e6⟩:=kMax
 obtain⟨t,m',i',g1,g2,g3⟩:=truncF_num h1 h2 h3 h4
 simp only [f186_0,sld_eq,f186_0g,f204_0,sld_eq,f204_0g,notNaN (.inl ⟨s,m,i,h1⟩),cK_false]
 rw [ord_eq g1 h1 g2 h2,g3,whole_qt h2 h5,h5,decide_eq_true rfl,cK_true]
 simp only [f205_0,sld_eq,f205_0g,f187_0,sld_eq,f187_0g,beq_self_eq_true,cK_true]
 have ha:FloatKind.f64.decode (absF (FloatKind.nearest .f64 n))=.number false m i:=by rw [abs_read,h1]
 have:((FloatKind.format .f64).order (absF (FloatKind.nearest .f64 n)) 9218868437227405311 == some Ordering.gt)=false:=by
  rw [ord_gt ha e4 h2 e5,e6]
  have:=le_max h3 h4
  exact decide_eq_false (by omega)
 show k (!((FloatKind.format .f64).order (absF (FloatKind.nearest .f64 n)) 9218868437227405311 == some Ordering.gt))=_
 rw [this];rfl
theorem abs_num {n:Int}(h:n.natAbs < 9007199254740992):∃ m i,FloatKind.f64.decode (absF (FloatKind.nearest .f64 n))=.number false m i/\-1074<=i/\vl (.number false m i)=(n.natAbs:Int)*(UU:Int):=by
 obtain⟨s,m,i,h1,h2,h3,h4,h5⟩:=whole_small h
 refine⟨m,i,by rw [abs_read,h1],h2,?_⟩
 rw [vl_abs] at h5 ⊢
 have:=congrArg Int.natAbs h5
 rw [sgn_abs,Int.natAbs_mul,Int.natAbs_natCast] at this
 simp only [sgn,Bool.false_eq_true,if_false]
 rw [this];push_cast;rfl
theorem k26:∃ m i,FloatKind.f64.decode 4724276009111650304=.number false m i/\-1074<=i/\vl (.number false m i)=67108864*(UU:Int):=by
 obtain⟨s,m,i,h1,h2,h3,h4,h5⟩:=whole_small (n:=67108864) (by decide)
 have e:FloatKind.nearest .f64 67108864=4724276009111650304:=by decide +kernel
 rw [e] at h1
 have h1':FloatKind.f64.decode 4724276009111650304=.number false 4503599627370496 (-26):=by decide +kernel
 rw [h1'] at h1
 injection h1 with a1 a2 a3
 subst a1;subst a2;subst a3
 exact⟨_,_,h1',h2,h5⟩
def ptB (x:Int):Bool:=inB x (-67108864) 67108864
theorem ptB_iff {x:Int}:ptB x=true ↔ -67108864<=x/\x<=67108864:=inB_iff
theorem abs_gt {n:Int}(h:n.natAbs < 9007199254740992):((FloatKind.format .f64).order (Int.toNat (iAndNot .u64 ((FloatKind.nearest .f64 n:Nat):Int) 9223372036854775808)) 4724276009111650304 == some Ordering.gt)=!ptB n:=by
 obtain⟨m0,i0,p1,p2,p3⟩:=k26
 obtain⟨m,i,q1,q2,q3⟩:=abs_num h
 show ((FloatKind.format .f64).order (absF (FloatKind.nearest .f64 n)) 4724276009111650304 == some Ordering.gt)=_
 rw [ord_gt q1 p1 q2 p2,q3,p3]
 cases hh:ptB n with
 | true=>
  have:=ptB_iff.1 hh
  apply decide_eq_false
  rw [mulU_lt];omega
 | false=>
  have:¬ (-67108864<=n/\n<=67108864):=fun q=>by rw [ptB_iff.2 q] at hh;cases hh
  apply decide_eq_true
  rw [mulU_lt];omega
theorem f145_num {x y:Int}(hx:x.natAbs < 9007199254740992)(hy:y.natAbs < 9007199254740992){k:Int->Int->Int->Option α} :
  f145_0 α (FloatKind.nearest .f64 x) (FloatKind.nearest .f64 y) 4724276009111650304 k=if ptB x=true/\ptB y=true then k x y 0 else k 0 0 2:=by
 obtain⟨z,hz⟩:∃ z,fuel=z+3:=⟨fuel - 3,by have:=fuel_ge;omega⟩
 have w1:w64 (0+1)=1:=by decide
 have w2:w64 (1+1)=2:=by decide
 have b1:((0:Int) == 1)=false:=by decide
 have b2:((0:Int) == 0)=true:=by decide
 have b3:((1:Int) == 1)=true:=by decide
 have c0:decide ((0:Int) < 2)=true:=by decide
 have c1:decide ((1:Int) < 2)=true:=by decide
 have c2:decide ((2:Int) < 2)=false:=by decide
 simp only [f145_0,sld_eq,f145_0g,L145_0_1,sld_eq,L145_0_1g,L145_0_3,sld_eq,L145_0_3g,hz,R145_0_1,R145_0_3,S145_0_1,S145_0_3,J145_0_0,sld_eq,J145_0_0g,J145_0_2,sld_eq,J145_0_2g,c0,c1,c2,w1,w2,b1,b2,b3,cK_true,cK_false,isWhole_num hx,isWhole_num hy,Bool.not_true,f187_0,sld_eq,f187_0g,abs_gt hx,abs_gt hy,f188_0,sld_eq,f188_0g,f2i_whole hx,f2i_whole hy]
 cases ptB x with
 | false=>rfl
 | true=>cases ptB y <;> rfl
theorem f86_num {x y r:Int}(hx:x.natAbs < 9007199254740992)(hy:y.natAbs < 9007199254740992)(hr:0<=r/\r<=67108864){k:Int->Int->Int->Option α} :
  f86_0 α (FloatKind.nearest .f64 x) (FloatKind.nearest .f64 y) r k=if ptB x=true/\ptB y=true then k x y 0 else k 0 0 2:=by
 simp only [f86_0,sld_eq,f86_0g,f145_num hx hy,J86_0_0,sld_eq,J86_0_0g]
 split
 ·simp only [beq_self_eq_true,cK_true,f146_0,sld_eq,f146_0g]
  rw [decide_eq_true hr.1,decide_eq_true hr.2]
  rfl
 ·rfl
abbrev B3:=Int × Int × Int
def nB (b:B3):Nat × Nat × Int:=(FloatKind.nearest .f64 b.1,FloatKind.nearest .f64 b.2.1,b.2.2)
def okS (s:B3):Bool:=ptB s.1 && ptB s.2.1 && inB s.2.2 0 67108864
theorem okS_iff {s:B3}:okS s=true ↔ (-67108864<=s.1/\s.1<=67108864)/\(-67108864<=s.2.1/\s.2.1<=67108864)/\0<=s.2.2/\s.2.2<=67108864:=by
 unfold okS
 rw [Bool.and_eq_true,Bool.and_eq_true,ptB_iff,ptB_iff,inB_iff,and_assoc]
theorem okB_S {x y r:Int}:Mb.okB x y r=okS (x,y,r):=by
 apply Bool.eq_iff_iff.2
 rw [okS_iff];unfold Mb.okB;rw [decide_eq_true_iff]
def pls (s t:B3):B3:=(s.1+t.1,s.2.1+t.2.1,s.2.2+t.2.2)
end Go.AM.K
