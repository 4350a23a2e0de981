/- Chapter 2: balls of whole numbers read and rounded; lengths; lists of balls. -/
import Derived.Test.YtmcplmhohldpjaaGreatYW0
import Derived.Test.YtmcplmhohldpjaaGreatYW4
import Derived.Test.YtmcplmhohldpjaaGreatKNa
import Derived.Test.YtmcplmhohldpjaaGreatRe
namespace Go.AM.K
open Ieee
set_option linter.unusedVariables false
set_option linter.unusedSimpArgs false
set_option linter.unusedSectionVars false
variable {α:Type}
def abr (n d:Int):Int:=(2*n+d) / (2*d)
theorem wO {n:Int}(h:n.natAbs < 9007199254740992){k:Bool->Option α}:Af α (FloatKind.nearest .f64 n) k=k true:=by
 obtain⟨s,m,i,h1,h2,h3,h4,h5⟩:=j0 h
 obtain⟨mM,iM,e4,e5,e6⟩:=atG
 obtain⟨t,m',i',g1,g2,g3⟩:=KH h1 h2 h3 h4
 simp only [Af,af,QP,FH,af,Mv,aiU (.inl ⟨s,m,i,h1⟩),am]
 rw [aki g1 h1 g2 h2,g3,Ik h2 h5,h5,decide_eq_true rfl,aq]
 simp only [E1,af,NJ,vq,af,GA,beq_self_eq_true,aq]
 have ha:FloatKind.f64.decode (Il (FloatKind.nearest .f64 n))=.number false m i:=by rw [Hw,h1]
 have:((FloatKind.format .f64).order (Il (FloatKind.nearest .f64 n)) 9218868437227405311 == some Ordering.gt)=false:=by
  rw [UY ha e4 h2 e5,e6]
  have:=ajX h3 h4
  exact decide_eq_false (by omega)
 show k (!((FloatKind.format .f64).order (Il (FloatKind.nearest .f64 n)) 9218868437227405311 == some Ordering.gt))=_
 rw [this];rfl
theorem aeO {n:Int}(h:n.natAbs < 9007199254740992):∃ m i,FloatKind.f64.decode (Il (FloatKind.nearest .f64 n))=.number false m i/\-1074<=i/\vl (.number false m i)=(n.natAbs:Int)*(UU:Int):=by
 obtain⟨s,m,i,h1,h2,h3,h4,h5⟩:=j0 h
 refine⟨m,i,by rw [Hw,h1],h2,?_⟩
 rw [Kz] at h5 ⊢
 have:=congrArg Int.natAbs h5
 rw [Ly,Int.natAbs_mul,Int.natAbs_natCast] at this
 simp only [sgn,Bool.false_eq_true,if_false]
 rw [this];push_cast;rfl
theorem k26:∃ m i,FloatKind.f64.decode 4724276009111650304=.number false m i/\-1074<=i/\vl (.number false m i)=67108864*(UU:Int):=by
 obtain⟨s,m,i,h1,h2,h3,h4,h5⟩:=j0 (n:=67108864) (by decide)
 have e:FloatKind.nearest .f64 67108864=4724276009111650304:=by decide +kernel
 rw [e] at h1
 have h1':FloatKind.f64.decode 4724276009111650304=.number false 4503599627370496 (-26):=by decide +kernel
 rw [h1'] at h1
 injection h1 with a1 a2 a3
 subst a1;subst a2;subst a3
 exact⟨_,_,h1',h2,h5⟩
def ptB (x:Int):Bool:=inB x (-67108864) 67108864
theorem hI {x:Int}:ptB x=true ↔ -67108864<=x/\x<=67108864:=Lv
theorem YP {n:Int}(h:n.natAbs < 9007199254740992):((FloatKind.format .f64).order (Int.toNat (yJ .u64 ((FloatKind.nearest .f64 n:Nat):Int) 9223372036854775808)) 4724276009111650304 == some Ordering.gt)=!ptB n:=by
 obtain⟨m0,i0,p1,p2,p3⟩:=k26
 obtain⟨m,i,q1,q2,q3⟩:=aeO h
 show ((FloatKind.format .f64).order (Il (FloatKind.nearest .f64 n)) 4724276009111650304 == some Ordering.gt)=_
 rw [UY q1 p1 q2 p2,q3,p3]
 cases hh:ptB n with
 | true=>
  have:=hI.1 hh
  apply decide_eq_false
  rw [QG];omega
 | false=>
  have:¬ (-67108864<=n/\n<=67108864):=fun q=>by rw [hI.2 q] at hh;cases hh
  apply decide_eq_true
  rw [QG];omega
theorem Wd {x y:Int}(hx:x.natAbs < 9007199254740992)(hy:y.natAbs < 9007199254740992){k:Int->Int->Int->Option α} :
  zK α (FloatKind.nearest .f64 x) (FloatKind.nearest .f64 y) 4724276009111650304 k=if ptB x=true/\ptB y=true then k x y 0 else k 0 0 2:=by
 obtain⟨z,hz⟩:∃ z,aN=z+3:=⟨aN - 3,by have:=cS;omega⟩
 have w1:w64 (0+1)=1:=by decide
 have w2:w64 (1+1)=2:=by decide
 have b1:((0:Int) == 1)=false:=by decide
 have b2:((0:Int) == 0)=true:=by decide
 have b3:((1:Int) == 1)=true:=by decide
 have c0:decide ((0:Int) < 2)=true:=by decide
 have c1:decide ((1:Int) < 2)=true:=by decide
 have c2:decide ((2:Int) < 2)=false:=by decide
 simp only [zK,af,MG,sV,af,Cy,tH,af,C7,hz,tg,ue,sQ,t7,nO,af,C4,oG,af,Cs,c0,c1,c2,w1,w2,b1,b2,b3,aq,am,wO hx,wO hy,Bool.not_true,vq,af,GA,YP hx,YP hy,Gc,af,Ow,D5 hx,D5 hy]
 cases ptB x with
 | false=>rfl
 | true=>cases ptB y <;> rfl
theorem E2 {x y r:Int}(hx:x.natAbs < 9007199254740992)(hy:y.natAbs < 9007199254740992)(hr:0<=r/\r<=67108864){k:Int->Int->Int->Option α} :
  iw α (FloatKind.nearest .f64 x) (FloatKind.nearest .f64 y) r k=if ptB x=true/\ptB y=true then k x y 0 else k 0 0 2:=by
 simp only [iw,af,Vu,Wd hx hy,xL,af,It]
 split
 ·simp only [beq_self_eq_true,aq,kM,af,Ft]
  rw [decide_eq_true hr.1,decide_eq_true hr.2]
  rfl
 ·rfl
abbrev B3:=Int × Int × Int
def nB (b:B3):Nat × Nat × Int:=(FloatKind.nearest .f64 b.1,FloatKind.nearest .f64 b.2.1,b.2.2)
def okS (s:B3):Bool:=ptB s.1 && ptB s.2.1 && inB s.2.2 0 67108864
theorem fX {s:B3}:okS s=true ↔ (-67108864<=s.1/\s.1<=67108864)/\(-67108864<=s.2.1/\s.2.1<=67108864)/\0<=s.2.2/\s.2.2<=67108864:=by
 unfold okS
 rw [Bool.and_eq_true,Bool.and_eq_true,hI,hI,Lv,and_assoc]
theorem Z2 {x y r:Int}:Mb.okB x y r=okS (x,y,r):=by
 apply Bool.eq_iff_iff.2
 rw [fX];unfold Mb.okB;rw [decide_eq_true_iff]
def pls (s t:B3):B3:=(s.1+t.1,s.2.1+t.2.1,s.2.2+t.2.2)
end Go.AM.K
