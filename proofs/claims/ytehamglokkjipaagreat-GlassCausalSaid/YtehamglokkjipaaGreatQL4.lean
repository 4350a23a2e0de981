/- Chapter 2: balls of whole numbers read and rounded; lengths; lists of balls. -/
import Derived.Test.YtehamglokkjipaaGreatQGP1
import Derived.Test.YtehamglokkjipaaGreatQMB4
import Derived.Test.YtehamglokkjipaaGreatKNa
namespace Go.AM.K
open Ieee
set_option linter.unusedVariables false
set_option linter.unusedSimpArgs false
set_option linter.unusedSectionVars false
variable {α:Type}
theorem cdv_le_iff {n d m:Int}(hd:0 < d):cdv n d<=m ↔ n<=m*d:=by
 unfold cdv
 have:=Int.le_ediv_iff_mul_le (a:=-m) (b:=-n) hd
 rw [Int.neg_mul] at this
 constructor
 ·intro h;have:=this.1 (by omega);omega
 ·intro h;have:=this.2 (by omega);omega
def near (n d:Int):Int:=(2*n+d) / (2*d)
theorem near_in {n d:Int}(hd:0 < d):n / d<=near n d/\near n d<=cdv n d:=by
 have e1:=Int.emod_add_mul_ediv n d
 have e2:=Int.emod_nonneg n (Int.ne_of_gt hd)
 have e3:=Int.emod_lt_of_pos n hd
 unfold near
 constructor
 ·rw [Int.le_ediv_iff_mul_le (by omega),Int.mul_left_comm]
  rw [Int.mul_comm (n / d)]
  omega
 ·have:(2*n+d) / (2*d) < cdv n d+1:=by
   rw [Int.ediv_lt_iff_lt_mul (by omega)]
   have q:=(cdv_le_iff (n:=n) (d:=d) (m:=cdv n d) hd).1 (Int.le_refl _)
   rw [Int.add_mul,Int.mul_left_comm]
   omega
  omega
theorem f43_eq {x:Int}(h1:-9223372036854775807<=x)(h2:x<=9223372036854775807){k:Int->Option α}:f43_0 α x k=k (x.natAbs:Int):=by
 simp only [f43_0,f43_0g]
 rw [w64_in (by omega) (by omega)]
 congr 1
 split <;> omega
theorem isWhole_num {n:Int}(h:n.natAbs < 9007199254740992){k:Bool->Option α}:f128_0 α (FloatKind.nearest .f64 n) k=k true:=by
 obtain⟨s,m,i,h1,h2,h3,h4,h5⟩:=whole_small h
 obtain⟨mM,iM,e4,e5,e6⟩:=kMax
 obtain⟨t,m',i',g1,g2,g3⟩:=truncF_num h1 h2 h3 h4
 simp only [f128_0,f128_0g,f150_0,f150_0g,notNaN (.inl ⟨s,m,i,h1⟩),cK_false]
 rw [ord_eq g1 h1 g2 h2,g3,whole_qt h2 h5,h5,decide_eq_true rfl,cK_true]
 simp only [f151_0,f151_0g,f129_0,f129_0g,beq_self_eq_true,cK_true]
 have ha:FloatKind.f64.decode (absF (FloatKind.nearest .f64 n))=.number false m i:=by rw [abs_read,h1]
 have:((FloatKind.format .f64).order (absF (FloatKind.nearest .f64 n)) 9218868437227405311 == some Ordering.gt)=false:=by
  rw [ord_gt ha e4 h2 e5,e6]
  have:=le_max h3 h4
  exact decide_eq_false (by omega)
 show k (!((FloatKind.format .f64).order (absF (FloatKind.nearest .f64 n)) 9218868437227405311 == some Ordering.gt))=_
 rw [this];rfl
theorem abs_num {n:Int}(h:n.natAbs < 9007199254740992):∃ m i,FloatKind.f64.decode (absF (FloatKind.nearest .f64 n))=.number false m i/\-1074<=i/\vl (.number false m i)=(n.natAbs:Int)*(UU:Int):=by
 obtain⟨s,m,i,h1,h2,h3,h4,h5⟩:=whole_small h
 refine⟨m,i,by rw [abs_read,h1],h2,?_⟩
 rw [vl_abs] at h5 ⊢
 have:=congrArg Int.natAbs h5
 rw [sgn_abs,Int.natAbs_mul,Int.natAbs_natCast] at this
 simp only [sgn,Bool.false_eq_true,if_false]
 rw [this];push_cast;rfl
theorem k26:∃ m i,FloatKind.f64.decode 4724276009111650304=.number false m i/\-1074<=i/\vl (.number false m i)=67108864*(UU:Int):=by
 obtain⟨s,m,i,h1,h2,h3,h4,h5⟩:=whole_small (n:=67108864) (by decide)
 have e:FloatKind.nearest .f64 67108864=4724276009111650304:=by decide +kernel
 rw [e] at h1
 have h1':FloatKind.f64.decode 4724276009111650304=.number false 4503599627370496 (-26):=by decide +kernel
 rw [h1'] at h1
 injection h1 with a1 a2 a3
 subst a1;subst a2;subst a3
 exact⟨_,_,h1',h2,h5⟩
def ptB (x:Int):Bool:=inB x (-67108864) 67108864
theorem ptB_iff {x:Int}:ptB x=true ↔ -67108864<=x/\x<=67108864:=inB_iff
theorem abs_gt {n:Int}(h:n.natAbs < 9007199254740992):((FloatKind.format .f64).order (Int.toNat (iAndNot .u64 ((FloatKind.nearest .f64 n:Nat):Int) 9223372036854775808)) 4724276009111650304 == some Ordering.gt)=!ptB n:=by
 obtain⟨m0,i0,p1,p2,p3⟩:=k26
 obtain⟨m,i,q1,q2,q3⟩:=abs_num h
 show ((FloatKind.format .f64).order (absF (FloatKind.nearest .f64 n)) 4724276009111650304 == some Ordering.gt)=_
 rw [ord_gt q1 p1 q2 p2,q3,p3]
 cases hh:ptB n with
 | true=>
  have:=ptB_iff.1 hh
  apply decide_eq_false
  rw [mulU_lt];omega
 | false=>
  have:¬ (-67108864<=n/\n<=67108864):=fun q=>by rw [ptB_iff.2 q] at hh;cases hh
  apply decide_eq_true
  rw [mulU_lt];omega
theorem f95_num {x y:Int}(hx:x.natAbs < 9007199254740992)(hy:y.natAbs < 9007199254740992){k:Int->Int->Int->Option α} :
  f95_0 α (FloatKind.nearest .f64 x) (FloatKind.nearest .f64 y) 4724276009111650304 k=if ptB x=true/\ptB y=true then k x y 0 else k 0 0 2:=by
 obtain⟨z,hz⟩:∃ z,fuel=z+3:=⟨fuel - 3,by have:=fuel_ge;omega⟩
 have w1:w64 (0+1)=1:=by decide
 have w2:w64 (1+1)=2:=by decide
 have b1:((0:Int) == 1)=false:=by decide
 have b2:((0:Int) == 0)=true:=by decide
 have b3:((1:Int) == 1)=true:=by decide
 have c0:decide ((0:Int) < 2)=true:=by decide
 have c1:decide ((1:Int) < 2)=true:=by decide
 have c2:decide ((2:Int) < 2)=false:=by decide
 simp only [f95_0,f95_0g,L95_0_1,L95_0_3,hz,R95_0_1,R95_0_3,S95_0_1,S95_0_1g,S95_0_3,S95_0_3g,J95_0_0,J95_0_0g,J95_0_2,J95_0_2g,c0,c1,c2,w1,w2,b1,b2,b3,cK_true,cK_false,isWhole_num hx,isWhole_num hy,Bool.not_true,f129_0,f129_0g,abs_gt hx,abs_gt hy,f130_0,f130_0g,f2i_whole hx,f2i_whole hy]
 cases ptB x with
 | false=>rfl
 | true=>cases ptB y <;> rfl
theorem f94_num {x y r:Int}(hx:x.natAbs < 9007199254740992)(hy:y.natAbs < 9007199254740992)(hr:0<=r/\r<=67108864){k:Int->Int->Int->Option α} :
  f94_0 α (FloatKind.nearest .f64 x) (FloatKind.nearest .f64 y) r k=if ptB x=true/\ptB y=true then k x y 0 else k 0 0 2:=by
 simp only [f94_0,f94_0g,f95_num hx hy,J94_0_0,J94_0_0g]
 split
 ·simp only [beq_self_eq_true,cK_true,f127_0,f127_0g]
  rw [decide_eq_true hr.1,decide_eq_true hr.2]
  rfl
 ·rfl
theorem f94_any {x y r:Int}(hx:x.natAbs < 9007199254740992)(hy:y.natAbs < 9007199254740992){k:Int->Int->Int->Option α} :
  ∃ a b,f94_0 α (FloatKind.nearest .f64 x) (FloatKind.nearest .f64 y) r k=if (ptB x && ptB y && inB r 0 67108864)=true then k x y 0 else k a b 2:=by
 simp only [f94_0,f94_0g,f95_num hx hy,J94_0_0,J94_0_0g]
 cases ptB x with
 | false=>exact⟨0,0,rfl⟩
 | true=>
  cases ptB y with
  | false=>exact⟨0,0,rfl⟩
  | true=>
   refine⟨x,y,?_⟩
   simp only [and_self,if_true,beq_self_eq_true,cK_true,f127_0,f127_0g,Bool.true_and]
   unfold inB
   cases decide (0<=r) with
   | false=>rfl
   | true=>cases decide (r<=67108864) <;> rfl
theorem f64_num {x y r:Int}(hx:x.natAbs < 9007199254740992)(hy:y.natAbs < 9007199254740992)(hr:0<=r/\r<=67108864){k:Int->Option α} :
  f64_0 α (FloatKind.nearest .f64 x) (FloatKind.nearest .f64 y) r k=if ptB x=true/\ptB y=true then k 0 else k 2:=by
 simp only [f64_0,f64_0g,f94_num hx hy hr]
theorem f63_eq' {n d:Int}(hd:0 < d)(hd2:d<=1000000000000)(h1:-1000000000000000000<=n)(h2:n<=1000000000000000000){k:Int->Option α}:f63_0 α n d k=k (near n d):=by
 simp only [f63_0,f63_0g]
 rw [w64_in (n:=2*n) (by omega) (by omega),w64_in (n:=2*d) (by omega) (by omega),w64_in (by omega) (by omega),f108_eq (by omega) (by omega) (by omega) (by omega)]
 rfl
def lenB (n:Nat):Bool:=n == 2 || n == 4 || n == 8 || n == 16 || n == 32
def shp (n:Int):Int:=if inB n 2 32=false then 12 else if (iAnd .i64 n (w64 (n - 1)) != 0)=true then 12 else 0
theorem shp_eq:∀ n:Fin 35,shp ((n.val:Nat):Int)=if lenB n.val=true then 0 else 12:=by decide +kernel
theorem f50_eq {n:Nat}(hn:n<=34){k:Int->Option α}:f50_0 α (n:Int) k=k (if lenB n=true then 0 else 12):=by
 have e:=shp_eq ⟨n,by omega⟩
 simp only at e
 rw [<- e]
 simp only [f50_0,f50_0g,f51_eq]
 unfold shp
 cases inB (n:Int) 2 32 with
 | false=>rfl
 | true=>
  simp only [Bool.not_true,cK_false,Bool.true_eq_false,if_false]
  cases (iAnd .i64 (n:Int) (w64 ((n:Int) - 1)) != 0) <;> rfl
theorem f56_eq {n:Nat}{k:Bool->Option α}:f56_0 α (n:Int) k=k (lenB n):=by
 obtain⟨z,hz⟩:∃ z,fuel=z+7:=⟨fuel - 7,by have:=fuel_ge;omega⟩
 have e:∀ a b:Nat,((a:Int) == (b:Int))=(a == b):=fun a b=>Bool.eq_iff_iff.2 (by rw [beq_iff_eq,beq_iff_eq];omega)
 have s2:((n:Int) == 2)=(n == 2):=e n 2
 have s4:((n:Int) == 4)=(n == 4):=e n 4
 have s8:((n:Int) == 8)=(n == 8):=e n 8
 have s16:((n:Int) == 16)=(n == 16):=e n 16
 have s32:((n:Int) == 32)=(n == 32):=e n 32
 simp only [f56_0,f56_0g,L56_0_0,hz,R56_0_0,S56_0_0,S56_0_0g]
 rw [show decide ((2:Int)<=32)=true by decide,show w64 (2*2)=4 by decide,show decide ((4:Int)<=32)=true by decide,show w64 (2*4)=8 by decide,show decide ((8:Int)<=32)=true by decide,show w64 (2*8)=16 by decide,show decide ((16:Int)<=32)=true by decide,show w64 (2*16)=32 by decide,show decide ((32:Int)<=32)=true by decide,show w64 (2*32)=64 by decide,show decide ((64:Int)<=32)=false by decide,s2,s4,s8,s16,s32]
 unfold lenB
 cases (n == 2) <;> cases (n == 4) <;> cases (n == 8) <;> cases (n == 16) <;> cases (n == 32) <;> rfl
abbrev rBl (b:Nat × Nat × Int):List DC:=[.v (.complex .f64 b.1 b.2.1),.v (.int .i64 b.2.2)]
abbrev B3:=Int × Int × Int
def nB (b:B3):Nat × Nat × Int:=(FloatKind.nearest .f64 b.1,FloatKind.nearest .f64 b.2.1,b.2.2)
theorem fl_Bl {s:List (Nat × Nat × Int)}{x:Option α}:flatK [s.map rBl] x=x:=flatK_map (enc:=rBl) (fun _=>rfl)
def okS (s:B3):Bool:=ptB s.1 && ptB s.2.1 && inB s.2.2 0 67108864
theorem okS_iff {s:B3}:okS s=true ↔ (-67108864<=s.1/\s.1<=67108864)/\(-67108864<=s.2.1/\s.2.1<=67108864)/\0<=s.2.2/\s.2.2<=67108864:=by
 unfold okS
 rw [Bool.and_eq_true,Bool.and_eq_true,ptB_iff,ptB_iff,inB_iff,and_assoc]
theorem okB_S {x y r:Int}:Mb.okB x y r=okS (x,y,r):=by
 apply Bool.eq_iff_iff.2
 rw [okS_iff];unfold Mb.okB;rw [decide_eq_true_iff]
def pls (s t:B3):B3:=(s.1+t.1,s.2.1+t.2.1,s.2.2+t.2.2)
def stp (s t:B3):Option B3:=if okS t=true/\okS (pls s t)=true then some (pls s t) else none
theorem stp_ok {s t u:B3}(h:stp s t=some u):okS u=true:=by
 unfold stp at h
 split at h
 ·rename_i hc
  simp only [Option.some.injEq] at h
  rw [<- h];exact hc.2
 ·cases h
theorem f136_eq {s t:B3}(hs:okS s=true)(h1:t.1.natAbs < 9007199254740992)(h2:t.2.1.natAbs < 9007199254740992)(h3:0<=t.2.2/\t.2.2<=67108864){k:Nat->Nat->Int->Int->Option α}{y:Nat->Nat->Int->Bool->Option α}(hk:∀ a b c e,k a b c e=y a b c (e != 0)) :
  f136_0 α (nB s).1 (nB s).2.1 (nB s).2.2 (nB t).1 (nB t).2.1 (nB t).2.2 k=match stp s t with
   | some u=>y (nB u).1 (nB u).2.1 (nB u).2.2 false
   | none=>y 0 0 0 true:=by
 have g1:=okS_iff.1 hs
 simp only [f136_0,f136_0g,f114_0,f114_0g,f144_0,f144_0g,nB]
 rw [f94_num (by omega) (by omega) g1.2.2,if_pos ⟨ptB_iff.2 g1.1,ptB_iff.2 g1.2.1⟩]
 simp only [bne_self_eq_false,cK_false]
 rw [f94_num h1 h2 h3]
 unfold stp
 by_cases hp:ptB t.1=true/\ptB t.2.1=true
 ·have ht:okS t=true:=by unfold okS;rw [hp.1,hp.2,inB_iff.2 h3];rfl
  have g2:=okS_iff.1 ht
  rw [if_pos hp]
  simp only [bne_self_eq_false,cK_false,f145_0,f145_0g,f154_0,f154_0g,f155_0,f155_0g]
  rw [w64_in (n:=s.1+t.1) (by omega) (by omega),w64_in (n:=s.2.1+t.2.1) (by omega) (by omega),w64_in (n:=s.2.2+t.2.2) (by omega) (by omega),Mb.f157_eq,okB_S]
  change (if okS (pls s t)=true then k (FloatKind.nearest .f64 (s.1+t.1)) (FloatKind.nearest .f64 (s.2.1+t.2.1)) (s.2.2+t.2.2) 0 else k 0 0 0 8)=_
  by_cases ho:okS (pls s t)=true
  ·rw [if_pos ho,if_pos ⟨ht,ho⟩,hk];rfl
  ·rw [if_neg ho,if_neg (fun q=>ho q.2),hk];rfl
 ·rw [if_neg hp,if_neg (fun q=>by
   have:=q.1
   unfold okS at this
   rw [Bool.and_eq_true,Bool.and_eq_true] at this
   exact hp this.1)]
  show cK ((2:Int) != 0) _ _=_
  rw [show ((2:Int) != 0)=true by decide,cK_true,hk];rfl
end Go.AM.K
