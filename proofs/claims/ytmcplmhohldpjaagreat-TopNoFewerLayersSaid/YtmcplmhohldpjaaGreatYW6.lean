/- Chapter 1, as chapter 2 needs it: products, differences, a ball that contains a number, parts of a ball: what the program and the document say is one. -/
import Derived.Test.YtmcplmhohldpjaaGreatYW5
import Derived.Test.YtmcplmhohldpjaaGreatKNa
namespace Go.AM.K
open Ieee
set_option linter.unusedVariables false
set_option linter.unusedSimpArgs false
variable {α:Type}
theorem ifm {β:Type}{c:Prop}[Decidable c]{u:B3}{x:B3->β}{y:β}:(if c then x u else y)=match (if c then some u else none) with
  | some v=>x v
  | none=>y:=by by_cases h:c <;> simp [h]
theorem dg {a b A B:Int}(h1:-A<=a)(h2:a<=A)(h3:-B<=b)(h4:b<=B):-(A*B)<=a*b/\a*b<=A*B:=by
 have hA:0<=A:=by omega
 have hB:0<=B:=by omega
 have e1:=Int.mul_nonneg (show 0<=A - a by omega) (show 0<=B+b by omega)
 have e2:=Int.mul_nonneg (show 0<=A+a by omega) (show 0<=B - b by omega)
 have e3:=Int.mul_nonneg (show 0<=A - a by omega) (show 0<=B - b by omega)
 have e4:=Int.mul_nonneg (show 0<=A+a by omega) (show 0<=B+b by omega)
 rw [Int.sub_mul,Int.mul_add,Int.mul_add] at e1
 rw [Int.add_mul,Int.mul_sub,Int.mul_sub] at e2
 rw [Int.sub_mul,Int.mul_sub,Int.mul_sub] at e3
 rw [Int.add_mul,Int.mul_add,Int.mul_add] at e4
 omega
def upq (n:Nat):Int:=if isq n*isq n < n then (isq n:Int)+1 else (isq n:Int)
def sqn (a:B3):Nat:=(a.1*a.1+a.2.1*a.2.1).toNat
def upc (a:B3):Int:=upq (sqn a)
def tmP (a b:B3):Int:=a.1*b.1 - a.2.1*b.2.1
def tmQ (a b:B3):Int:=a.1*b.2.1+a.2.1*b.1
def tmB (a b:B3):B3:=(rdv (tmP a b) 1048576,rdv (tmQ a b) 1048576,cdv (upc a*b.2.2+upc b*a.2.2+a.2.2*b.2.2) 1048576+(if tmP a b % 1048576=0/\tmQ a b % 1048576=0 then 0 else 1))
def tms (a b:B3):Option B3:=if okS (tmB a b)=true then some (tmB a b) else none
theorem DQ {β:Type}{U a b:B3}{x:B3->β}{y:β}(h:tmB a b=U):(if okS U=true then x U else y)=match tms a b with
  | some v=>x v
  | none=>y:=by subst h;exact ifm
theorem lW {x:Int}(h1:-67108864<=x)(h2:x<=67108864):0<=x*x/\x*x<=4503599627370496:=by
 have:=dg (A:=67108864) (B:=67108864) h1 h2 h1 h2
 refine⟨?_,by omega⟩
 rcases Int.le_total 0 x with h | h
 ·exact Int.mul_nonneg h h
 ·exact Int.mul_nonneg_of_nonpos_of_nonpos h h
theorem Ye {n:Nat}(h:n<=9007199254740992):(isq n:Int)<=94906265:=by
 have:=(il (n:=n) (by omega)).1
 by_cases hh:isq n<=94906265
 ·omega
 ·have:=Nat.mul_le_mul (show 94906266<=isq n by omega) (show 94906266<=isq n by omega)
  omega
theorem aj9 {n:Nat}(h:n<=9007199254740992):0<=upq n/\upq n<=94906266:=by
 have:=Ye h
 unfold upq;split <;> omega
section
variable {a:B3}(ha:okS a=true)
include ha
theorem j6:(sqn a:Int)=a.1*a.1+a.2.1*a.2.1/\sqn a<=9007199254740992:=by
 have g:=fM.1 ha
 have e1:=lW g.1.1 g.1.2
 have e2:=lW g.2.1.1 g.2.1.2
 unfold sqn
 omega
theorem Fh:0<=upc a/\upc a<=94906266:=aj9 (j6 ha).2
theorem rx {k:Int->Option α}:lQ α a.1 a.2.1 k=k (upc a):=by
 have g:=fM.1 ha
 have e1:=lW g.1.1 g.1.2
 have e2:=lW g.2.1.1 g.2.1.2
 obtain⟨e3,e4⟩:=j6 ha
 have e5:=Ye e4
 simp only [lQ,af,Ly,ja,af,sK,m6,af,Fc]
 rw [ak (n:=a.1*a.1) (by omega) (by omega),ak (n:=a.2.1*a.2.1) (by omega) (by omega),ak (n:=a.1*a.1+a.2.1*a.2.1) (by omega) (by omega),<- e3,rH (by omega)]
 have e6:=lW (x:=(isq (sqn a):Int))
 have e7:w64 ((isq (sqn a):Int)*(isq (sqn a):Int))=((isq (sqn a)*isq (sqn a):Nat):Int):=by
  rw [<- Int.natCast_mul]
  have:=(il (n:=sqn a) (by omega)).1
  exact ak (by omega) (by omega)
 rw [e7,ak (n:=(isq (sqn a):Int)+1) (by omega) (by omega),bi]
 unfold upc upq
 by_cases h:isq (sqn a)*isq (sqn a) < sqn a
 ·rw [if_pos (by omega),if_pos h]
 ·rw [if_neg (by omega),if_neg h]
end
section
variable {a b:B3}(ha:okS a=true)(hb:okS b=true)
include ha hb
theorem agV:(-4503599627370496<=a.1*b.1/\a.1*b.1<=4503599627370496)/\(-4503599627370496<=a.2.1*b.2.1/\a.2.1*b.2.1<=4503599627370496)/\(-4503599627370496<=a.1*b.2.1/\a.1*b.2.1<=4503599627370496)/\(-4503599627370496<=a.2.1*b.1/\a.2.1*b.1<=4503599627370496) /\
  (0<=upc a*b.2.2/\upc a*b.2.2<=6369051697741824)/\(0<=upc b*a.2.2/\upc b*a.2.2<=6369051697741824)/\0<=a.2.2*b.2.2/\a.2.2*b.2.2<=4503599627370496:=by
 have g:=fM.1 ha
 have h:=fM.1 hb
 have u:=Fh ha
 have v:=Fh hb
 have e1:=dg (A:=67108864) (B:=67108864) g.1.1 g.1.2 h.1.1 h.1.2
 have e2:=dg (A:=67108864) (B:=67108864) g.2.1.1 g.2.1.2 h.2.1.1 h.2.1.2
 have e3:=dg (A:=67108864) (B:=67108864) g.1.1 g.1.2 h.2.1.1 h.2.1.2
 have e4:=dg (A:=67108864) (B:=67108864) g.2.1.1 g.2.1.2 h.1.1 h.1.2
 have e5:=dg (a:=upc a) (b:=b.2.2) (A:=94906266) (B:=67108864) (by omega) (by omega) (by omega) (by omega)
 have e6:=dg (a:=upc b) (b:=a.2.2) (A:=94906266) (B:=67108864) (by omega) (by omega) (by omega) (by omega)
 have e7:=dg (a:=a.2.2) (b:=b.2.2) (A:=67108864) (B:=67108864) (by omega) (by omega) (by omega) (by omega)
 have f5:=Int.mul_nonneg u.1 h.2.2.1
 have f6:=Int.mul_nonneg v.1 g.2.2.1
 have f7:=Int.mul_nonneg g.2.2.1 h.2.2.1
 refine⟨by omega,by omega,by omega,by omega,by omega,by omega,by omega⟩
theorem afw {k:Nat->Nat->Int->Int->Option α}:ue α (nB a).1 (nB a).2.1 (nB a).2.2 (nB b).1 (nB b).2.1 (nB b).2.2 k=match tms a b with
  | some u=>k (nB u).1 (nB u).2.1 (nB u).2.2 0
  | none=>k 0 0 0 8:=by
 have g:=fM.1 ha
 have h:=fM.1 hb
 obtain⟨e1,e2,e3,e4,e5,e6,e7⟩:=agV ha hb
 have eP:w64 (w64 (a.1*b.1) - w64 (a.2.1*b.2.1))=tmP a b:=by
  rw [ak (n:=a.1*b.1) (by omega) (by omega),ak (n:=a.2.1*b.2.1) (by omega) (by omega)];exact ak (by omega) (by omega)
 have eQ:w64 (w64 (a.1*b.2.1)+w64 (a.2.1*b.1))=tmQ a b:=by
  rw [ak (n:=a.1*b.2.1) (by omega) (by omega),ak (n:=a.2.1*b.1) (by omega) (by omega)];exact ak (by omega) (by omega)
 have eR:w64 (w64 (w64 (upc a*b.2.2)+w64 (upc b*a.2.2))+w64 (a.2.2*b.2.2))=upc a*b.2.2+upc b*a.2.2+a.2.2*b.2.2:=by
  rw [ak (n:=upc a*b.2.2) (by omega) (by omega),ak (n:=upc b*a.2.2) (by omega) (by omega),ak (n:=a.2.2*b.2.2) (by omega) (by omega),ak (n:=upc a*b.2.2+upc b*a.2.2) (by omega) (by omega)];exact ak (by omega) (by omega)
 have bP:-9007199254740992<=tmP a b/\tmP a b<=9007199254740992:=by unfold tmP;omega
 have bQ:-9007199254740992<=tmQ a b/\tmQ a b<=9007199254740992:=by unfold tmQ;omega
 simp only [ue,af,PZ,D0,af,NT,nB]
 rw [FQ (by omega) (by omega) g.2.2,if_pos ⟨gO.2 g.1,gO.2 g.2.1⟩]
 simp only [bne_self_eq_false,ap,Es,af,PD]
 rw [FQ (by omega) (by omega) h.2.2,if_pos ⟨gO.2 h.1,gO.2 h.2.1⟩]
 simp only [bne_self_eq_false,ap,D1,af,Lv,Fd,af,LI,uO,af,DU,rx ha,rx hb]
 rw [eP,eQ,eR,Mb.f171_eq (by decide) (by decide) (by omega) (by omega),Mb.f171_eq (by decide) (by decide) (by omega) (by omega),Mb.f89_eq (by decide) (by decide) (by omega) (by omega)]
 have hc:0<=cdv (upc a*b.2.2+upc b*a.2.2+a.2.2*b.2.2) 1048576/\cdv (upc a*b.2.2+upc b*a.2.2+a.2.2*b.2.2) 1048576<=17179869184:=by unfold cdv;omega
 have t1:(Int.tmod (tmP a b) 1048576 != 0)=!decide (tmP a b % 1048576=0):=by rw [bne,Mb.tmod0]
 have t2:(Int.tmod (tmQ a b) 1048576 != 0)=!decide (tmQ a b % 1048576=0):=by rw [bne,Mb.tmod0]
 simp only [jw,af,xX,Mb.f182_eq,Tu,t1,t2]
 by_cases h1:tmP a b % 1048576=0
 ·by_cases h2:tmQ a b % 1048576=0
  ·rw [decide_eq_true h1,decide_eq_true h2,Bool.not_true,ap,ap,ak (by omega) (by omega)]
   have e:tmB a b=(rdv (tmP a b) 1048576,rdv (tmQ a b) 1048576,cdv (upc a*b.2.2+upc b*a.2.2+a.2.2*b.2.2) 1048576+0):=by unfold tmB;rw [if_pos ⟨h1,h2⟩]
   exact DQ e (x:=fun v:B3=>k (FloatKind.nearest .f64 v.1) (FloatKind.nearest .f64 v.2.1) v.2.2 0)
  ·rw [decide_eq_true h1,decide_eq_false h2,Bool.not_true,Bool.not_false,ap,aq,ak (by omega) (by omega)]
   have e:tmB a b=(rdv (tmP a b) 1048576,rdv (tmQ a b) 1048576,cdv (upc a*b.2.2+upc b*a.2.2+a.2.2*b.2.2) 1048576+1):=by unfold tmB;rw [if_neg (fun q=>h2 q.2)]
   exact DQ e (x:=fun v:B3=>k (FloatKind.nearest .f64 v.1) (FloatKind.nearest .f64 v.2.1) v.2.2 0)
 ·rw [decide_eq_false h1,Bool.not_false,aq,aq,ak (by omega) (by omega)]
  have e:tmB a b=(rdv (tmP a b) 1048576,rdv (tmQ a b) 1048576,cdv (upc a*b.2.2+upc b*a.2.2+a.2.2*b.2.2) 1048576+1):=by unfold tmB;rw [if_neg (fun q=>h1 q.1)]
  exact DQ e (x:=fun v:B3=>k (FloatKind.nearest .f64 v.1) (FloatKind.nearest .f64 v.2.1) v.2.2 0)
end
def mis (s t:B3):B3:=(s.1 - t.1,s.2.1 - t.2.1,s.2.2+t.2.2)
end Go.AM.K
