/- Chapter 2: balls of whole numbers read and rounded; lengths; lists of balls. -/
import Derived.Test.YtmcplmhohldpjaaGreatYW0
import Derived.Test.YtmcplmhohldpjaaGreatYW4
import Derived.Test.YtmcplmhohldpjaaGreatKNa
import Derived.Test.YtmcplmhohldpjaaGreatRe
namespace Go.AM.K
open Ieee
set_option linter.unusedVariables false
set_option linter.unusedSimpArgs false
set_option linter.unusedSectionVars false
variable {α:Type}
def YA (n d:Int):Int:=(2*n+d) / (2*d)
theorem ww {n:Int}(h:n.natAbs < 9007199254740992){k:Bool->Option α}:Ba α (FloatKind.nearest .f64 n) k=k true:=by
 obtain⟨s,m,i,h1,h2,h3,h4,h5⟩:=jX h
 obtain⟨mM,iM,e4,e5,e6⟩:=as0
 obtain⟨t,m',i',g1,g2,g3⟩:=Ja h1 h2 h3 h4
 simp only [Ba,af,PG,EH,af,QF,akE (.inl ⟨s,m,i,h1⟩),ap]
 rw [aj0 g1 h1 g2 h2,g3,HL h2 h5,h5,decide_eq_true rfl,aq]
 simp only [E1,af,O6,uf,af,E7,beq_self_eq_true,aq]
 have ha:FloatKind.f64.decode (F9 (FloatKind.nearest .f64 n))=.number false m i:=by rw [H2,h1]
 have:((FloatKind.format .f64).order (F9 (FloatKind.nearest .f64 n)) 9218868437227405311 == some Ordering.gt)=false:=by
  rw [aao ha e4 h2 e5,e6]
  have:=ajA h3 h4
  exact decide_eq_false (by omega)
 show k (!((FloatKind.format .f64).order (F9 (FloatKind.nearest .f64 n)) 9218868437227405311 == some Ordering.gt))=_
 rw [this];rfl
theorem acr {n:Int}(h:n.natAbs < 9007199254740992):∃ m i,FloatKind.f64.decode (F9 (FloatKind.nearest .f64 n))=.number false m i/\-1074<=i/\vl (.number false m i)=(n.natAbs:Int)*(UU:Int):=by
 obtain⟨s,m,i,h1,h2,h3,h4,h5⟩:=jX h
 refine⟨m,i,by rw [H2,h1],h2,?_⟩
 rw [JK] at h5 ⊢
 have:=congrArg Int.natAbs h5
 rw [M5,Int.natAbs_mul,Int.natAbs_natCast] at this
 simp only [sgn,Bool.false_eq_true,if_false]
 rw [this];push_cast;rfl
theorem k26:∃ m i,FloatKind.f64.decode 4724276009111650304=.number false m i/\-1074<=i/\vl (.number false m i)=67108864*(UU:Int):=by
 obtain⟨s,m,i,h1,h2,h3,h4,h5⟩:=jX (n:=67108864) (by decide)
 have e:FloatKind.nearest .f64 67108864=4724276009111650304:=by decide +kernel
 rw [e] at h1
 have h1':FloatKind.f64.decode 4724276009111650304=.number false 4503599627370496 (-26):=by decide +kernel
 rw [h1'] at h1
 injection h1 with a1 a2 a3
 subst a1;subst a2;subst a3
 exact⟨_,_,h1',h2,h5⟩
def ptB (x:Int):Bool:=inB x (-67108864) 67108864
theorem gO {x:Int}:ptB x=true ↔ -67108864<=x/\x<=67108864:=QE
theorem WZ {n:Int}(h:n.natAbs < 9007199254740992):((FloatKind.format .f64).order (Int.toNat (xp .u64 ((FloatKind.nearest .f64 n:Nat):Int) 9223372036854775808)) 4724276009111650304 == some Ordering.gt)=!ptB n:=by
 obtain⟨m0,i0,p1,p2,p3⟩:=k26
 obtain⟨m,i,q1,q2,q3⟩:=acr h
 show ((FloatKind.format .f64).order (F9 (FloatKind.nearest .f64 n)) 4724276009111650304 == some Ordering.gt)=_
 rw [aao q1 p1 q2 p2,q3,p3]
 cases hh:ptB n with
 | true=>
  have:=gO.1 hh
  apply decide_eq_false
  rw [Qh];omega
 | false=>
  have:¬ (-67108864<=n/\n<=67108864):=fun q=>by rw [gO.2 q] at hh;cases hh
  apply decide_eq_true
  rw [Qh];omega
theorem YD {x y:Int}(hx:x.natAbs < 9007199254740992)(hy:y.natAbs < 9007199254740992){k:Int->Int->Int->Option α} :
  Ai α (FloatKind.nearest .f64 x) (FloatKind.nearest .f64 y) 4724276009111650304 k=if ptB x=true/\ptB y=true then k x y 0 else k 0 0 2:=by
 obtain⟨z,hz⟩:∃ z,aN=z+3:=⟨aN - 3,by have:=cB;omega⟩
 have w1:w64 (0+1)=1:=by decide
 have w2:w64 (1+1)=2:=by decide
 have b1:((0:Int) == 1)=false:=by decide
 have b2:((0:Int) == 0)=true:=by decide
 have b3:((1:Int) == 1)=true:=by decide
 have c0:decide ((0:Int) < 2)=true:=by decide
 have c1:decide ((1:Int) < 2)=true:=by decide
 have c2:decide ((2:Int) < 2)=false:=by decide
 simp only [Ai,af,Qd,rA,af,BP,ss,af,Co,hz,sQ,rn,tJ,tC,nV,af,C2,mz,af,Dq,c0,c1,c2,w1,w2,b1,b2,b3,aq,ap,ww hx,ww hy,Bool.not_true,uf,af,E7,WZ hx,WZ hy,EO,af,NC,Db hx,Db hy]
 cases ptB x with
 | false=>rfl
 | true=>cases ptB y <;> rfl
theorem FQ {x y r:Int}(hx:x.natAbs < 9007199254740992)(hy:y.natAbs < 9007199254740992)(hr:0<=r/\r<=67108864){k:Int->Int->Int->Option α} :
  gY α (FloatKind.nearest .f64 x) (FloatKind.nearest .f64 y) r k=if ptB x=true/\ptB y=true then k x y 0 else k 0 0 2:=by
 simp only [gY,af,Vw,YD hx hy,xS,af,HH]
 split
 ·simp only [beq_self_eq_true,aq,kq,af,EN]
  rw [decide_eq_true hr.1,decide_eq_true hr.2]
  rfl
 ·rfl
abbrev B3:=Int × Int × Int
def nB (b:B3):Nat × Nat × Int:=(FloatKind.nearest .f64 b.1,FloatKind.nearest .f64 b.2.1,b.2.2)
def okS (s:B3):Bool:=ptB s.1 && ptB s.2.1 && inB s.2.2 0 67108864
theorem fM {s:B3}:okS s=true ↔ (-67108864<=s.1/\s.1<=67108864)/\(-67108864<=s.2.1/\s.2.1<=67108864)/\0<=s.2.2/\s.2.2<=67108864:=by
 unfold okS
 rw [Bool.and_eq_true,Bool.and_eq_true,gO,gO,QE,and_assoc]
theorem Tu {x y r:Int}:Mb.okB x y r=okS (x,y,r):=by
 apply Bool.eq_iff_iff.2
 rw [fM];unfold Mb.okB;rw [decide_eq_true_iff]
def pls (s t:B3):B3:=(s.1+t.1,s.2.1+t.2.1,s.2.2+t.2.2)
end Go.AM.K
