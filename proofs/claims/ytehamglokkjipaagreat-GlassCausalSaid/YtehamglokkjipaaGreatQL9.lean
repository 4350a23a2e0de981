/- Chapter 2: a ball that contains 0, parts of a ball, rows of balls; what the program and the document say of a ball is one. -/
import Derived.Test.YtehamglokkjipaaGreatQL8
namespace Go.AM.K
open Ieee
set_option linter.unusedVariables false
set_option linter.unusedSimpArgs false
variable {α:Type}
theorem k27:∃ m i,FloatKind.f64.decode 4728779608739020800=.number false m i/\-1074<=i/\vl (.number false m i)=134217728*(UU:Int):=by
 obtain⟨s,m,i,h1,h2,h3,h4,h5⟩:=whole_small (n:=134217728) (by decide)
 have e:FloatKind.nearest .f64 134217728=4728779608739020800:=by decide +kernel
 rw [e] at h1
 have h1':FloatKind.f64.decode 4728779608739020800=.number false 4503599627370496 (-25):=by decide +kernel
 rw [h1'] at h1
 injection h1 with a1 a2 a3
 subst a1;subst a2;subst a3
 exact⟨_,_,h1',h2,h5⟩
theorem abs_27 {n:Int}(h:n.natAbs<=134217728):((FloatKind.format .f64).order (Int.toNat (iAndNot .u64 ((FloatKind.nearest .f64 n:Nat):Int) 9223372036854775808)) 4728779608739020800 == some Ordering.gt)=false:=by
 obtain⟨m0,i0,p1,p2,p3⟩:=k27
 obtain⟨m,i,q1,q2,q3⟩:=abs_num (n:=n) (by omega)
 show ((FloatKind.format .f64).order (absF (FloatKind.nearest .f64 n)) 4728779608739020800 == some Ordering.gt)=_
 rw [ord_gt q1 p1 q2 p2,q3,p3]
 apply decide_eq_false
 rw [mulU_lt];omega
theorem f95_in {x y:Int}(hx:x.natAbs<=134217728)(hy:y.natAbs<=134217728){k:Int->Int->Int->Option α} :
  f95_0 α (FloatKind.nearest .f64 x) (FloatKind.nearest .f64 y) 4728779608739020800 k=k x y 0:=by
 obtain⟨z,hz⟩:∃ z,fuel=z+3:=⟨fuel - 3,by have:=fuel_ge;omega⟩
 have w1:w64 (0+1)=1:=by decide
 have w2:w64 (1+1)=2:=by decide
 have b1:((0:Int) == 1)=false:=by decide
 have b2:((0:Int) == 0)=true:=by decide
 have b3:((1:Int) == 1)=true:=by decide
 have c0:decide ((0:Int) < 2)=true:=by decide
 have c1:decide ((1:Int) < 2)=true:=by decide
 have c2:decide ((2:Int) < 2)=false:=by decide
 simp only [f95_0,f95_0g,L95_0_1,L95_0_3,hz,R95_0_1,R95_0_3,S95_0_1,S95_0_1g,S95_0_3,S95_0_3g,J95_0_0,J95_0_0g,J95_0_2,J95_0_2g,c0,c1,c2,w1,w2,b1,b2,b3,cK_true,cK_false,isWhole_num (n:=x) (by omega),isWhole_num (n:=y) (by omega),Bool.not_true,f129_0,f129_0g,abs_27 hx,abs_27 hy,f130_0,f130_0g,f2i_whole (n:=x) (by omega),f2i_whole (n:=y) (by omega)]
 rfl
def ctn (b:B3)(x y:Int):Bool:=decide ((x - b.1)*(x - b.1)+(y - b.2.1)*(y - b.2.1)<=b.2.2*b.2.2)
def hz (b:B3):Bool:=ctn b 0 0
theorem f44_eq {b:B3}(hb:okS b=true){x y:Int}(hx:x.natAbs<=134217728)(hy:y.natAbs<=134217728){k:Bool->Int->Option α}:f44_0 α (nB b).1 (nB b).2.1 (nB b).2.2 (FloatKind.nearest .f64 x) (FloatKind.nearest .f64 y) k=k (ctn b x y) 0:=by
 have g:=okS_iff.1 hb
 have e1:=mul_bd (a:=x - b.1) (b:=x - b.1) (A:=201326592) (B:=201326592) (by omega) (by omega) (by omega) (by omega)
 have e2:=mul_bd (a:=y - b.2.1) (b:=y - b.2.1) (A:=201326592) (B:=201326592) (by omega) (by omega) (by omega) (by omega)
 have e3:=sq_bd (x:=b.2.2) (by omega) (by omega)
 simp only [f44_0,f44_0g,nB]
 rw [f94_num (by omega) (by omega) g.2.2,if_pos ⟨ptB_iff.2 g.1,ptB_iff.2 g.2.1⟩]
 simp only [bne_self_eq_false,cK_false,f95_in hx hy,f96_0,f96_0g,f123_0,f123_0g,f131_0,f131_0g]
 rw [decide_eq_true g.2.2.1,cK_true,w64_in (n:=x - b.1) (by omega) (by omega),w64_in (n:=y - b.2.1) (by omega) (by omega),w64_in (n:=(x - b.1)*(x - b.1)) (by omega) (by omega),w64_in (n:=(y - b.2.1)*(y - b.2.1)) (by omega) (by omega),w64_in (n:=b.2.2*b.2.2) (by omega) (by omega),w64_in (by omega) (by omega)]
 rfl
theorem f85_eq {b:B3}(hb:okS b=true){k:Bool->Option α}:f85_0 α (nB b).1 (nB b).2.1 (nB b).2.2 k=k (hz b):=by
 have:=f44_eq hb (x:=0) (y:=0) (by decide) (by decide) (k:=fun x4 x5=>k x4)
 rw [nea0] at this
 simp only [f85_0,f85_0g]
 exact this
def shr (d:Int)(b:B3):B3:=(near b.1 d,near b.2.1 d,cdv b.2.2 d+if b.1 % d=0/\b.2.1 % d=0 then 0 else 1)
theorem near_sm {x d:Int}(hd:0 < d)(h1:-67108864<=x)(h2:x<=67108864):-67108864<=near x d/\near x d<=67108864:=by
 have h:=near_in (n:=x) hd
 have e1:-67108864<=x / d:=by
  rw [Int.le_ediv_iff_mul_le hd];omega
 have e2:=(cdv_le_iff (n:=x) (d:=d) (m:=67108864) hd).2 (by omega)
 omega
theorem cdv_sm {r d:Int}(hd:2<=d)(h1:0<=r)(h2:r<=67108864):0<=cdv r d/\cdv r d<=33554432:=by
 have e2:=(cdv_le_iff (n:=r) (d:=d) (m:=33554432) (by omega)).2 (by omega)
 refine⟨?_,e2⟩
 unfold cdv
 have h3:(-r) / d < 1:=by rw [Int.ediv_lt_iff_lt_mul (by omega)];omega
 omega
theorem shr_ok {d:Int}(hd:2<=d){b:B3}(hb:okS b=true):okS (shr d b)=true:=by
 have g:=okS_iff.1 hb
 have e1:=near_sm (d:=d) (by omega) g.1.1 g.1.2
 have e2:=near_sm (d:=d) (by omega) g.2.1.1 g.2.1.2
 have e3:=cdv_sm hd g.2.2.1 g.2.2.2
 refine okS_iff.2 ⟨e1,e2,?_⟩
 unfold shr
 simp only
 split <;> omega
theorem tmod_d {x d:Int}:(Int.tmod x d != 0)=!decide (x % d=0):=by
 by_cases h:x % d=0
 ·rw [decide_eq_true h,Int.tmod_eq_zero_of_dvd (Int.dvd_of_emod_eq_zero h)];rfl
 ·rw [decide_eq_false h]
  exact bne_iff_ne.2 fun q=>h (Int.emod_eq_zero_of_dvd (Int.dvd_of_tmod_eq_zero q))
theorem f83_eq {d:Int}(hd:2<=d)(hd2:d<=1000){b:B3}(hb:okS b=true){k:Nat->Nat->Int->Option α}:f83_0 α (nB b).1 (nB b).2.1 (nB b).2.2 d k=k (nB (shr d b)).1 (nB (shr d b)).2.1 (nB (shr d b)).2.2:=by
 have g:=okS_iff.1 hb
 have e3:=cdv_sm hd g.2.2.1 g.2.2.2
 have h0:(d != 0)=true:=bne_iff_ne.2 (by omega)
 simp only [f83_0,f83_0g,nB,f2i_whole (n:=b.1) (by omega),f2i_whole (n:=b.2.1) (by omega),ivK]
 rw [f63_eq' (by omega) (by omega) (by omega) (by omega),f63_eq' (by omega) (by omega) (by omega) (by omega),f109_eq (by omega) (by omega) (by omega) (by omega)]
 simp only [J83_0_0,J83_0_0g,gK_of h0,tmod_d]
 have eR:w64 (cdv b.2.2 d+1)=cdv b.2.2 d+1:=w64_in (by omega) (by omega)
 unfold shr
 simp only
 by_cases h1:b.1 % d=0
 ·by_cases h2:b.2.1 % d=0
  ·rw [decide_eq_true h1,decide_eq_true h2,if_pos ⟨h1,h2⟩,Int.add_zero];rfl
  ·rw [decide_eq_true h1,decide_eq_false h2,if_neg (fun q=>h2 q.2),eR];rfl
 ·rw [decide_eq_false h1,if_neg (fun q=>h1 q.1),eR];rfl
theorem f64_ok {b:B3}(hb:okS b=true){k:Int->Option α}:f64_0 α (nB b).1 (nB b).2.1 (nB b).2.2 k=k 0:=by
 have g:=okS_iff.1 hb
 simp only [nB]
 rw [f64_num (by omega) (by omega) g.2.2,if_pos ⟨ptB_iff.2 g.1,ptB_iff.2 g.2.1⟩]
def wide (b:B3):Prop:=b.1.natAbs < 9007199254740992/\b.2.1.natAbs < 9007199254740992
theorem okS_wide {b:B3}(h:okS b=true):wide b:=by have g:=okS_iff.1 h;unfold wide;omega
theorem f64_any {b:B3}(hb:wide b){k:Int->Option α}:f64_0 α (nB b).1 (nB b).2.1 (nB b).2.2 k=k (if okS b=true then 0 else 2):=by
 simp only [f64_0,f64_0g,nB]
 obtain⟨p,q,h⟩:=f94_any (r:=b.2.2) hb.1 hb.2 (k:=fun x4 x5 x6=>k x6)
 rw [h]
 unfold okS
 split <;> rfl
end Go.AM.K
