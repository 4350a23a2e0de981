/- Texts of one kind, put together. -/
import Derived.Test.YtffcelhcekillaaGreatKMa
import Derived.IntWalk
namespace Go.AM
variable {α:Type}
@[simp] theorem ap {x y:Option α}:cK true x y=x:=rfl
@[simp] theorem al {x y:Option α}:cK false x y=y:=rfl
@[simp] theorem aIx {x:Option α}:gK true x=x:=rfl
theorem aK {p:Prop}[Decidable p]{x y:Option α}:cK (decide p) x y=if p then x else y:=by by_cases h:p <;> simp [h]
theorem bO {b:Bool}{x:Option α}(h:b=true):gK b x=x:=by rw [h];rfl
theorem aj {n:Int}(h1:-9223372036854775808<=n)(h2:n<=9223372036854775807):w64 n=n:=IntWalk.i64_in n (by omega)
def cdv (n d:Int):Int:=-((-n) / d)
theorem o5 {rows:ae}{i:Nat}{r:List DC}{sh:List Sh}{f:Cur sh (Option α)}(h:rows[i]?=some r):dT rows (i:Int) sh f=shC sh r f:=by
 simp [dT,h]
theorem Bw {A:Type}{enc:A->List DC}{n:Nat}(h:∀ a,(enc a).length=n)(l:List A):eS n (l.map enc)=true:=by
 simp [eS,h]
theorem uL {A:Type}{enc:A->List DC}{n b:Nat}(h:∀ a,(enc a).length=n){rows:ae}{l:List A}(h1:(rows.length+l.length)*b<=140737488355328)(h2:rows.length+l.length<=9223372036854775807):dH n b rows (l.map enc)=true:=by
 simp only [dH,Bw h,List.length_map];exact decide_eq_true ⟨trivial,h1,h2⟩
set_option linter.unusedVariables false
set_option linter.unusedSimpArgs false
def orK {B:Type}(o:Option B)(y:B->Option α)(n:Option α):Option α:=match o with | some b=>y b | none=>n
@[simp] theorem aC3 {B:Type} {b:B} {y:B->Option α} {n:Option α}:orK (some b) y n=y b:=rfl
@[simp] theorem aBr {B:Type} {y:B->Option α} {n:Option α}:orK (none:Option B) y n=n:=rfl
abbrev aKk:=Int × Bool × Int × Bool
def r0:aKk:=(0,false,0,false)
open Ieee
def vl:Datum->Int
 | .number s m i=>signed s m (i+1074).toNat
 | _=>0
theorem Dd (s:Bool)(m a b:Nat):signed s m (a+b)=signed s m a*((2 ^ b:Nat):Int):=by
 have h:m <<< (a+b)=(m <<< a)*2 ^ b:=by simp only [Nat.shiftLeft_eq,Nat.pow_add,Nat.mul_assoc]
 unfold signed;rw [h];cases s
 ·simp
 ·simp [Int.neg_mul]
theorem Aw (a b:Int):compare a b=if a < b then .lt else if a=b then .eq else .gt:=rfl
theorem asA (a b:Int){c:Nat}(hc:0 < c):compare (a*(c:Int)) (b*(c:Int))=compare a b:=by
 have hc':(0:Int) < (c:Int):=by omega
 rw [Aw,Aw];have h1:a*(c:Int) < b*(c:Int) ↔ a < b:=⟨fun h=>Int.lt_of_mul_lt_mul_right h (by omega),fun h=>Int.mul_lt_mul_of_pos_right h hc'⟩
 have h2:a*(c:Int)=b*(c:Int) ↔ a=b:=⟨fun h=>Int.eq_of_mul_eq_mul_right (by omega) h,fun h=>by rw [h]⟩
 simp only [h1,h2]
theorem aas {s t:Bool}{m n:Nat}{i j:Int}(hi:-1074<=i)(hj:-1074<=j):(Datum.number s m i).order (.number t n j)=some (compare (vl (.number s m i)) (vl (.number t n j))):=by
 simp only [Datum.order,vl,zaI];obtain⟨c,hc⟩:∃ c:Nat,min i j+1074=(c:Int):=⟨(min i j+1074).toNat,by omega⟩
 have e1:(i+1074).toNat=(i - min i j).toNat+c:=by omega
 have e2:(j+1074).toNat=(j - min i j).toNat+c:=by omega
 rw [e1,e2,Dd,Dd,asA _ _ (Nat.two_pow_pos c)]
theorem axq {n:Nat}:(∃ s m i,FloatKind.f64.decode n=.number s m i/\-1074<=i/\i<=971/\m < 2 ^ 53)\/(∃ s,FloatKind.f64.decode n=.infinity s)\/bM .f64 n=true:=by
 have h1:Ieee.double.signWeight=9223372036854775808:=by decide
 have h2:Ieee.double.binade=4503599627370496:=by decide
 have h3:Ieee.double.infRung=9218868437227405312:=by decide
 have h4:Ieee.double.leastPlace=-1074:=by decide
 rw [dc];simp only [FloatKind.decode,FloatKind.format,Ieee.Format.read,h1,h2,h3,h4];split
 ·exact .inl ⟨_,_,_,rfl,by omega,by omega,by omega⟩
 ·split
  ·exact .inl ⟨_,_,_,rfl,by omega,by omega,by omega⟩
  ·split
   ·exact .inr (.inl ⟨_,rfl⟩)
   ·exact .inr (.inr ⟨_,_,rfl⟩)
theorem qJ (s:Bool){q K:Nat}(hq:q<=2045)(h1:4503599627370496<=K)(h2:K < 9007199254740992):Ieee.double.read (Ieee.double.word s (q*4503599627370496+K))=.number s K (-1074+(q:Int)):=by
 have e1:Ieee.double.signWeight=9223372036854775808:=by decide
 have e2:Ieee.double.binade=4503599627370496:=by decide
 have e3:Ieee.double.infRung=9218868437227405312:=by decide
 have e4:Ieee.double.leastPlace=-1074:=by decide
 simp only [Ieee.Format.read,Ieee.Format.word,e1,e2,e3,e4];have hm:(if s=true then 9223372036854775808+(q*4503599627370496+K) else q*4503599627370496+K) % 9223372036854775808=q*4503599627370496+K:=by
  cases s <;> simp <;> omega
 have hs:((if s=true then 9223372036854775808+(q*4503599627370496+K) else q*4503599627370496+K) / 9223372036854775808 % 2 == 1)=s:=by
  cases s
  ·simp;omega
  ·simp;omega
 rw [hm,hs,if_neg (by omega),if_pos (by omega)];have a1:4503599627370496+(q*4503599627370496+K) % 4503599627370496=K:=by omega
 have a2:(q*4503599627370496+K) / 4503599627370496 - 1=q:=by omega
 rw [a1,a2]
theorem AQ {m:Nat}(h:m ≠ 0):2 ^ m.log2<=m/\m < 2 ^ (m.log2+1):=⟨Nat.log2_self_le h,Nat.lt_log2_self⟩
theorem aKV (s:Bool)(n:Nat):Toward.even.cut s n 0=n:=by
 simp [Toward.cut,Nat.mod_one]
theorem Ux {s:Bool}{m:Nat}{p:Int}(h0:m ≠ 0)(hL:m.log2<=52)(h1:-1074<=p+m.log2 - 52)(h2:p+m.log2<=1023) :
  FloatKind.f64.decode (FloatKind.f64.encode (.number s m p))=.number s (m*2 ^ (52 - m.log2)) (p+m.log2 - 52):=by
 obtain⟨b1,b2⟩:=AQ h0;have e1:Ieee.double.fractionBits=52:=rfl;have e2:Ieee.double.binade=4503599627370496:=by decide
 have e3:Ieee.double.infRung=9218868437227405312:=by decide
 have e4:Ieee.double.leastPlace=-1074:=by decide
 obtain⟨q,hq⟩:∃ q:Nat,p+m.log2 - 52=-1074+(q:Int):=⟨(p+m.log2 - 52+1074).toNat,by omega⟩
 have hK1:4503599627370496<=m*2 ^ (52 - m.log2):=by
  have:2 ^ m.log2*2 ^ (52 - m.log2)<=m*2 ^ (52 - m.log2):=Nat.mul_le_mul_right _ b1;rw [<- Nat.pow_add,show m.log2+(52 - m.log2)=52 by omega] at this;exact this
 have hK2:m*2 ^ (52 - m.log2) < 9007199254740992:=by
  have:m*2 ^ (52 - m.log2) < 2 ^ (m.log2+1)*2 ^ (52 - m.log2):=Nat.mul_lt_mul_of_pos_right b2 (Nat.two_pow_pos _);rw [<- Nat.pow_add,show m.log2+1+(52 - m.log2)=53 by omega] at this;exact this
 show Ieee.double.read (Ieee.double.nearest s m p)=_;unfold Ieee.Format.nearest;rw [if_neg h0];simp only [e1,e2,e3,e4];have hlast:max (p+(m.log2:Int) - ((52:Nat):Int)) (-1074)=-1074+(q:Int):=by omega
 rw [hlast,show (-1074+(q:Int) - p).toNat=0 by omega,aKV,show (p - (-1074+(q:Int))).toNat=52 - m.log2 by omega,Nat.shiftLeft_eq,show (-1074+(q:Int) - -1074).toNat=q by omega,Nat.min_eq_left (by omega),qJ s (by omega) hK1 hK2,hq]
theorem arw {s:Bool}{m:Nat}{p:Int}(hL:52 < m.log2)(hd:m % 2 ^ (m.log2 - 52)=0)(h1:-1074<=p+m.log2 - 52)(h2:p+m.log2<=1023) :
  FloatKind.f64.decode (FloatKind.f64.encode (.number s m p))=.number s (m / 2 ^ (m.log2 - 52)) (p+m.log2 - 52):=by
 have h0:m ≠ 0:=by rintro rfl;simp at hL
 obtain⟨b1,b2⟩:=AQ h0;have e1:Ieee.double.fractionBits=52:=rfl;have e2:Ieee.double.binade=4503599627370496:=by decide
 have e3:Ieee.double.infRung=9218868437227405312:=by decide
 have e4:Ieee.double.leastPlace=-1074:=by decide
 obtain⟨q,hq⟩:∃ q:Nat,p+m.log2 - 52=-1074+(q:Int):=⟨(p+m.log2 - 52+1074).toNat,by omega⟩
 have hpos:=Nat.two_pow_pos (m.log2 - 52);have hmk:m=m / 2 ^ (m.log2 - 52)*2 ^ (m.log2 - 52):=by have:=Nat.div_add_mod m (2 ^ (m.log2 - 52));rw [hd] at this;rw [Nat.mul_comm] at this;omega
 have hK1:4503599627370496<=m / 2 ^ (m.log2 - 52):=by
  rw [Nat.le_div_iff_mul_le hpos,show 4503599627370496=2 ^ 52 by decide,<- Nat.pow_add,show 52+(m.log2 - 52)=m.log2 by omega];exact b1
 have hK2:m / 2 ^ (m.log2 - 52) < 9007199254740992:=by
  rw [Nat.div_lt_iff_lt_mul hpos,show 9007199254740992=2 ^ 53 by decide,<- Nat.pow_add,show 53+(m.log2 - 52)=m.log2+1 by omega];exact b2
 show Ieee.double.read (Ieee.double.nearest s m p)=_;unfold Ieee.Format.nearest;rw [if_neg h0];simp only [e1,e2,e3,e4];have hlast:max (p+(m.log2:Int) - ((52:Nat):Int)) (-1074)=-1074+(q:Int):=by omega
 have hcut:Toward.even.cut s m (m.log2 - 52)=m / 2 ^ (m.log2 - 52):=by
  unfold Toward.cut;have hg:1 <<< min (m.log2 - 52) (m.log2+2)=2 ^ (m.log2 - 52):=by rw [Nat.min_eq_left (by omega),Nat.shiftLeft_eq,Nat.one_mul]
  simp only [hg,hd,Nat.mul_zero,Nat.not_lt_zero,decide_false,Bool.false_or];have:(2 ^ (m.log2 - 52) == 0)=false:=by rw [beq_eq_false_iff_ne];omega
  rw [this];rfl
 rw [hlast,show (-1074+(q:Int) - p).toNat=m.log2 - 52 by omega,show (p - (-1074+(q:Int))).toNat=0 by omega,Nat.shiftLeft_zero,hcut,show (-1074+(q:Int) - -1074).toNat=q by omega,Nat.min_eq_left (by omega),qJ s (by omega) hK1 hK2,hq]
theorem aoD {s:Bool}{p:Int}:FloatKind.f64.decode (FloatKind.f64.encode (.number s 0 p))=.number s 0 (-1074):=by
 have e:FloatKind.f64.encode (.number s 0 p)=Ieee.double.word s 0:=by
  show Ieee.double.nearest s 0 p=_;unfold Ieee.Format.nearest;rw [if_pos rfl]
 rw [e];cases s <;> decide
def eU:Nat:=1074
theorem Bs:eU=1074:=rfl
def UU:Nat:=2 ^ eU
theorem acg:0 < UU:=Nat.two_pow_pos eU
def sgn (s:Bool)(a:Nat):Int:=if s then -(a:Int) else (a:Int)
theorem li (s:Bool)(m k:Nat):signed s m k=sgn s (m*2 ^ k):=by
 unfold signed sgn;rw [Nat.shiftLeft_eq]
theorem Vp (s:Bool)(a:Nat):(sgn s a).natAbs=a:=by cases s <;> simp [sgn]
theorem KD (s:Bool)(a b:Nat):sgn s (a*b)=sgn s a*(b:Int):=by cases s <;> simp [sgn,Int.neg_mul]
theorem HW (s:Bool)(q:Nat)(h:q.log2<=52\/q % 2 ^ (q.log2 - 52)=0)(h2:q.log2<=1023):∃ t m i,FloatKind.f64.decode (FloatKind.f64.encode (.number s q 0))=.number t m i/\-1074<=i/\vl (.number t m i)=sgn s q*(UU:Int):=by
 by_cases h0:q=0
 ·subst h0
  refine⟨s,0,-1074,aoD,by omega,?_⟩;simp only [vl,li,Nat.zero_mul];cases s <;> simp [sgn]
 ·by_cases hL:q.log2<=52
  ·refine⟨_,_,_,Ux h0 hL (by omega) (by omega),by omega,?_⟩
   simp only [vl,li];rw [Nat.mul_assoc,<- Nat.pow_add,show 52 - q.log2+((0:Int)+q.log2 - 52+1074).toNat=eU by (have:=Bs;omega),<- KD];rfl
  ·have hd:q % 2 ^ (q.log2 - 52)=0:=by rcases h with h | h;omega;exact h
   have hpos:=Nat.two_pow_pos (q.log2 - 52);refine⟨_,_,_,arw (by omega) hd (by omega) (by omega),by omega,?_⟩;simp only [vl,li];have e:((0:Int)+q.log2 - 52+1074).toNat=(q.log2 - 52)+eU:=by have:=Bs;omega
   rw [e,Nat.pow_add,<- Nat.mul_assoc,Nat.div_mul_cancel (Nat.dvd_of_mod_eq_zero hd),<- KD];rfl
def qt (m:Nat)(i:Int):Nat:=Toward.zero.cut false (m <<< i.toNat) (-i).toNat
theorem aay (s:Bool)(n d:Nat):Toward.zero.cut s n d=n / (1 <<< min d (n.log2+2)):=by simp [Toward.cut]
theorem aAJ {m:Nat}{i:Int}(hi:-1074<=i):qt m i=m*2 ^ (i+1074).toNat / UU:=by
 unfold qt UU;rw [aay];by_cases h:0<=i
 ·rw [show (-i).toNat=0 by omega,Nat.min_eq_left (Nat.zero_le _),Nat.shiftLeft_zero,Nat.div_one,Nat.shiftLeft_eq,show (i+1074).toNat=i.toNat+eU by (have:=Bs;omega),Nat.pow_add,<- Nat.mul_assoc,Nat.mul_div_cancel _ (Nat.two_pow_pos _)]
 ·rw [show i.toNat=0 by omega,Nat.shiftLeft_zero,Nat.shiftLeft_eq,Nat.one_mul]
  have e:m*2 ^ (i+1074).toNat / 2 ^ eU=m / 2 ^ (-i).toNat:=by
   rw [show eU=(-i).toNat+(i+1074).toNat by (have:=Bs;omega),Nat.pow_add,Nat.mul_div_mul_right _ _ (Nat.two_pow_pos _)]
  rw [e];by_cases h2:(-i).toNat<=m.log2+2
  ·rw [Nat.min_eq_left h2]
  ·rw [Nat.min_eq_right (by omega)]
   have hm:m < 2 ^ (m.log2+1):=by
    by_cases h0:m=0
    ·subst h0;exact Nat.two_pow_pos _
    ·exact Nat.lt_log2_self
   rw [Nat.div_eq_of_lt (Nat.lt_of_lt_of_le hm (Nat.pow_le_pow_right (by decide) (by omega))),Nat.div_eq_of_lt (Nat.lt_of_lt_of_le hm (Nat.pow_le_pow_right (by decide) (by omega)))]
theorem acM {m:Nat}{i:Int}(hi:-1074<=i)(hi2:i<=971)(hm:m < 2 ^ 53):((qt m i).log2<=52\/qt m i % 2 ^ ((qt m i).log2 - 52)=0)/\(qt m i).log2<=1023:=by
 by_cases h0:qt m i=0
 ·rw [h0];simp
 by_cases h:0<=i
 ·have e:qt m i=m*2 ^ i.toNat:=by
   unfold qt;rw [aay,show (-i).toNat=0 by omega,Nat.min_eq_left (Nat.zero_le _),Nat.shiftLeft_zero,Nat.div_one,Nat.shiftLeft_eq]
  have hlt:qt m i < 2 ^ (53+i.toNat):=by
   rw [e,Nat.pow_add];exact Nat.mul_lt_mul_of_pos_right hm (Nat.two_pow_pos _)
  have hl:(qt m i).log2 < 53+i.toNat:=(Nat.log2_lt h0).2 hlt;refine⟨?_,by omega⟩;by_cases hL:(qt m i).log2<=52
  ·exact .inl hL
  ·refine .inr (Nat.mod_eq_zero_of_dvd ?_)
   have hd:2 ^ ((qt m i).log2 - 52) ∣ 2 ^ i.toNat:=Nat.pow_dvd_pow 2 (by omega);have:2 ^ i.toNat ∣ qt m i:=by rw [e];exact Nat.dvd_mul_left _ _
   exact Nat.dvd_trans hd this
 ·have hle:qt m i<=m:=by
   unfold qt;rw [aay,show i.toNat=0 by omega,Nat.shiftLeft_zero];exact Nat.div_le_self _ _
  have hl:(qt m i).log2 < 53:=(Nat.log2_lt h0).2 (by omega);exact⟨.inl (by omega),by omega⟩
theorem avV (s:Bool)(n d:Nat):Toward.zero.cut s n d=Toward.zero.cut false n d:=by rw [aay,aay]
theorem Pl {s:Bool}{m:Nat}{i:Int}:vl (.number s m i)=sgn s (m*2 ^ (i+1074).toNat):=by simp only [vl,li]
theorem OP {y:Nat}{s:Bool}{m:Nat}{i:Int}(hy:FloatKind.f64.decode y=.number s m i)(hi:-1074<=i)(hi2:i<=971)(hm:m < 2 ^ 53) :
  ∃ t m' i',FloatKind.f64.decode (oy y)=.number t m' i'/\-1074<=i'/\vl (.number t m' i')=sgn s (qt m i)*(UU:Int):=by
 have e:oy y=FloatKind.f64.encode (.number s (qt m i) 0):=by
  unfold oy qt;rw [hy];simp only [Datum.integral];rw [avV]
 rw [e];obtain⟨h1,h2⟩:=acM hi hi2 hm;exact HW s _ h1 h2
theorem FP {y:Nat}{s:Bool}{m:Nat}{i:Int}(hy:FloatKind.f64.decode y=.number s m i):(FloatKind.f64.decode y).toInt .zero=some (sgn s (qt m i)):=by
 unfold qt;rw [hy];simp only [Datum.toInt,Datum.integral,li,Nat.pow_zero,Nat.mul_one];rw [avV]
section
variable {a b:Nat}{s t:Bool}{m n:Nat}{i j:Int}(ha:FloatKind.f64.decode a=.number s m i)(hb:FloatKind.f64.decode b=.number t n j)(hi:-1074<=i)(hj:-1074<=j)
include ha hb hi hj
theorem XQ:(FloatKind.format .f64).order a b=some (compare (vl (.number s m i)) (vl (.number t n j))):=by
 show (FloatKind.f64.decode a).order (FloatKind.f64.decode b)=_;rw [ha,hb,aas hi hj]
theorem azF:((FloatKind.format .f64).order a b == some Ordering.eq)=decide (vl (.number s m i)=vl (.number t n j)):=by
 rw [XQ ha hb hi hj,Aw];by_cases h:vl (.number s m i) < vl (.number t n j)
 ·have:¬ vl (.number s m i)=vl (.number t n j):=by omega
  simp [h,this]
 ·by_cases h2:vl (.number s m i)=vl (.number t n j)
  ·simp [h2]
  ·simp [h,h2]
theorem aim:((FloatKind.format .f64).order a b == some Ordering.gt)=decide (vl (.number t n j) < vl (.number s m i)):=by
 rw [XQ ha hb hi hj,Aw];by_cases h:vl (.number s m i) < vl (.number t n j)
 ·have:¬ vl (.number t n j) < vl (.number s m i):=by omega
  simp [h,this]
 ·by_cases h2:vl (.number s m i)=vl (.number t n j)
  ·simp [h2]
  ·have:vl (.number t n j) < vl (.number s m i):=by omega
   simp [h,h2,this]
end
theorem k0:∃ m i,FloatKind.f64.decode 0=.number false m i/\-1074<=i/\vl (.number false m i)=0:=⟨0,-1074,by decide,by omega,by decide⟩
def Nn (y:Nat):Nat:=Int.toNat (AU .u64 ((y:Nat):Int) 9223372036854775808)
theorem anM (y:Nat):Nn y=y % 9223372036854775808:=by
 unfold Nn AU;have e1:(BitVec.ofInt (IntKind.bits .u64) 9223372036854775808).toNat=9223372036854775808:=by decide
 have e2:(BitVec.ofInt (IntKind.bits .u64) ((y:Nat):Int)).toNat=y % 18446744073709551616:=by
  rw [BitVec.toNat_ofInt];show (((y:Nat):Int) % ((2 ^ 64:Nat):Int)).toNat=_;omega
 have e3:(BitVec.ofInt (IntKind.bits .u64) ((y:Nat):Int) &&& ~~~(BitVec.ofInt (IntKind.bits .u64) 9223372036854775808)).toNat=y % 9223372036854775808:=by
  rw [BitVec.toNat_and,BitVec.toNat_not,e1,e2];show (y % 18446744073709551616) &&& (2 ^ 63 - 1)=_;rw [Nat.and_two_pow_sub_one_eq_mod];omega
 rw [e3];have:IntKind.wrap .u64 ((y % 9223372036854775808:Nat):Int)=((y % 9223372036854775808:Nat):Int):=by
  have h1:(0:Int)<=((y % 9223372036854775808:Nat):Int):=by omega
  have h2:((y % 9223372036854775808:Nat):Int) < 18446744073709551616:=by omega
  simp only [IntKind.wrap,IntKind.bits,IntKind.signed,Bool.false_eq_true,if_false,false_and]
  first
   | exact Int.emod_eq_of_lt h1 h2
   | (rw [Int.emod_eq_of_lt h1 h2];try rfl)
 rw [this];omega
theorem MY {y:Nat}:FloatKind.f64.decode (Nn y)=match FloatKind.f64.decode y with | .number _ m i=>.number false m i | .infinity _=>.infinity false | .nan _ t=>.nan false t:=by
 have h1:Ieee.double.signWeight=9223372036854775808:=by decide
 rw [anM];simp only [FloatKind.decode,FloatKind.format,Ieee.Format.read,h1];have e1:y % 9223372036854775808 / 9223372036854775808=0:=by omega
 have e2:y % 9223372036854775808 % 9223372036854775808=y % 9223372036854775808:=by omega
 rw [e1,e2];simp only [Nat.zero_mod];split
 ·rfl
 ·split
  ·rfl
  ·split <;> rfl
theorem aye {y:Nat}(h:(∃ s m i,FloatKind.f64.decode y=.number s m i)\/∃ s,FloatKind.f64.decode y=.infinity s):bM .f64 y=false:=by
 unfold bM;rcases h with ⟨s,m,i,h⟩ | ⟨s,h⟩ <;> rw [h]
def mxF:Nat:=9007199254740991*2 ^ (971+eU)
theorem aIT:∃ m i,FloatKind.f64.decode 9218868437227405311=.number false m i/\-1074<=i/\vl (.number false m i)=(mxF:Int):=⟨9007199254740991,971,by decide +kernel,by omega,by decide +kernel⟩
theorem axI {m:Nat}{i:Int}(hi2:i<=971)(hm:m < 2 ^ 53):vl (.number false m i)<=(mxF:Int):=by
 rw [Pl];have:m*2 ^ (i+1074).toNat<=mxF:=Nat.mul_le_mul (by omega) (Nat.pow_le_pow_right (by decide) (by have:=Bs;omega));exact Int.ofNat_le.2 this
theorem Ki (s:Bool)(n d:Nat):n / (1 <<< min d (n.log2+2))<=Toward.even.cut s n d/\Toward.even.cut s n d<=n / (1 <<< min d (n.log2+2))+1:=by
 simp only [Toward.cut];constructor
 ·exact Nat.le_add_right _ _
 ·refine Nat.add_le_add_left ?_ _
  exact Bool.toNat_le _
theorem TZ {s:Bool}{m:Nat}{p:Int}(hL:52 < m.log2)(h1:-1074<=p+m.log2 - 52)(h2:p+m.log2<=1022) :
  ∃ K i,FloatKind.f64.decode (FloatKind.f64.encode (.number s m p))=.number s K i/\4503599627370496<=K/\K < 2 ^ 53/\p+m.log2 - 52<=i/\i<=p+m.log2 - 51:=by
 have h0:m ≠ 0:=by rintro rfl;simp at hL
 obtain⟨b1,b2⟩:=AQ h0;have e1:Ieee.double.fractionBits=52:=rfl;have e2:Ieee.double.binade=4503599627370496:=by decide
 have e3:Ieee.double.infRung=9218868437227405312:=by decide
 have e4:Ieee.double.leastPlace=-1074:=by decide
 obtain⟨q,hq⟩:∃ q:Nat,p+m.log2 - 52=-1074+(q:Int):=⟨(p+m.log2 - 52+1074).toNat,by omega⟩
 have hpos:=Nat.two_pow_pos (m.log2 - 52);have hK1:4503599627370496<=m / 2 ^ (m.log2 - 52):=by
  rw [Nat.le_div_iff_mul_le hpos,show 4503599627370496=2 ^ 52 by decide,<- Nat.pow_add,show 52+(m.log2 - 52)=m.log2 by omega];exact b1
 have hK2:m / 2 ^ (m.log2 - 52) < 9007199254740992:=by
  rw [Nat.div_lt_iff_lt_mul hpos,show 9007199254740992=2 ^ 53 by decide,<- Nat.pow_add,show 53+(m.log2 - 52)=m.log2+1 by omega];exact b2
 obtain⟨c1,c2⟩:=Ki s m (m.log2 - 52);rw [Nat.min_eq_left (by omega),Nat.shiftLeft_eq,Nat.one_mul] at c1 c2;have key:FloatKind.f64.decode (FloatKind.f64.encode (.number s m p))=Ieee.double.read (Ieee.double.word s (q*4503599627370496+Toward.even.cut s m (m.log2 - 52))):=by
  show Ieee.double.read (Ieee.double.nearest s m p)=_;unfold Ieee.Format.nearest;rw [if_neg h0];simp only [e1,e2,e3,e4];have hlast:max (p+(m.log2:Int) - ((52:Nat):Int)) (-1074)=-1074+(q:Int):=by omega
  rw [hlast,show (-1074+(q:Int) - p).toNat=m.log2 - 52 by omega,show (p - (-1074+(q:Int))).toNat=0 by omega,Nat.shiftLeft_zero,show (-1074+(q:Int) - -1074).toNat=q by omega,Nat.min_eq_left (by omega)]
 generalize Toward.even.cut s m (m.log2 - 52)=c at *;rw [key];by_cases hc:c < 9007199254740992
 ·exact⟨c,_,qJ s (by omega) (by omega) hc,by omega,by simpa using hc,by omega,by omega⟩
 ·have hce:c=9007199254740992:=by omega
  rw [hce,show q*4503599627370496+9007199254740992=(q+1)*4503599627370496+4503599627370496 by omega];exact⟨_,_,qJ s (by omega) (by omega) (by omega),by decide,by decide,by omega,by omega⟩
theorem pp {n:Nat}:∀ (todo root:Nat),root*root<=n->n < (root+2 ^ todo)*(root+2 ^ todo)->Datum.rootFrom n todo root*Datum.rootFrom n todo root<=n/\n < (Datum.rootFrom n todo root+1)*(Datum.rootFrom n todo root+1)
 | 0,root,h1,h2=>⟨h1,by rw [Nat.pow_zero] at h2;exact h2⟩
 | todo+1,root,h1,h2=>by
  simp only [Datum.rootFrom,Nat.shiftLeft_eq,Nat.one_mul];by_cases h:(root+2 ^ todo)*(root+2 ^ todo)<=n
  ·rw [if_pos h]
   exact pp todo _ h (by rw [Nat.add_assoc,<- Nat.two_mul,<- Nat.pow_succ'];exact h2)
  ·rw [if_neg h]
   exact pp todo root h1 (by omega)
theorem ade {n:Nat}(h0:n ≠ 0)(h1:n < 288230376151711744) :
  ∃ K i,FloatKind.f64.decode (FloatKind.nearest .f64 (n:Int))=.number false K i/\4503599627370496<=K/\K < 9007199254740992/\-52<=i/\i<=6:=by
 have hs:decide ((n:Int) < 0)=false:=decide_eq_false (by omega);have hL:n.log2 < 58:=(Nat.log2_lt h0).2 h1;obtain⟨b1,b2⟩:=AQ h0;unfold FloatKind.nearest;rw [hs,show (n:Int).natAbs=n by omega];by_cases h:n.log2<=52
 ·refine⟨_,_,Ux h0 h (by omega) (by omega),?_,?_,by omega,by omega⟩
  ·have:2 ^ n.log2*2 ^ (52 - n.log2)<=n*2 ^ (52 - n.log2):=Nat.mul_le_mul_right _ b1
   rw [<- Nat.pow_add,show n.log2+(52 - n.log2)=52 by omega] at this;exact this
  ·have:n*2 ^ (52 - n.log2) < 2 ^ (n.log2+1)*2 ^ (52 - n.log2):=Nat.mul_lt_mul_of_pos_right b2 (Nat.two_pow_pos _)
   rw [<- Nat.pow_add,show n.log2+1+(52 - n.log2)=53 by omega] at this;exact this
 ·obtain⟨K,i,e,e1,e2,e3,e4⟩:=TZ (s:=false) (m:=n) (p:=0) (by omega) (by omega) (by omega)
  exact⟨K,i,e,e1,by simpa using e2,by omega,by omega⟩
theorem auC {K:Nat}{i:Int}(hK1:4503599627370496<=K)(hK2:K < 9007199254740992)(hi1:-52<=i)(hi2:i<=6) :
  ∃ M p,Datum.root 54 (.number false K i)=some (.number false M p)/\36028797018963968<=M/\M < 72057594037927936/\-56<=p/\p<=-26:=by
 have hl:K.log2=52:=by
  have a1:K.log2 < 53:=(Nat.log2_lt (by omega)).2 (by omega);have a2:52<=K.log2:=(Nat.le_log2 (by omega)).2 (by omega);omega
 have hK0:¬ K=0:=by omega
 simp only [Datum.root,if_neg hK0,Bool.false_eq_true,if_false,hl];obtain⟨z,hz,hz2⟩:∃ z:Nat,((i - ((2*54 - 52:Nat):Int)) % 2).toNat=z/\z < 2:=⟨_,rfl,by omega⟩
 rw [hz];have hsh:K <<< (2*54 - 52+z)=K*2 ^ (56+z):=by rw [Nat.shiftLeft_eq]
 rw [hsh];have hp:2 ^ (56+z)=72057594037927936\/2 ^ (56+z)=144115188075855872:=by
  rcases (show z=0\/z=1 by omega) with h | h <;> subst h <;> simp
 have hpos:72057594037927936<=2 ^ (56+z)/\2 ^ (56+z)<=144115188075855872:=by omega
 have g1:4503599627370496*72057594037927936<=K*2 ^ (56+z):=Nat.mul_le_mul hK1 hpos.1;have g2:K*2 ^ (56+z) < 9007199254740992*144115188075855872:=Nat.lt_of_lt_of_le (Nat.mul_lt_mul_of_pos_right hK2 (Nat.two_pow_pos _)) (Nat.mul_le_mul_left _ hpos.2);generalize K*2 ^ (56+z)=n at *;have hn:108<=n.log2:=(Nat.le_log2 (by omega)).2 (by omega);have hn2:n.log2 < 110:=(Nat.log2_lt (by omega)).2 (by omega);have hd:n.log2 / 2+1=55:=by omega
 rw [hd];obtain⟨r1,r2⟩:=pp (n:=n) 55 0 (by omega) (by omega);generalize Datum.rootFrom n 55 0=w at *;have w1:18014398509481984<=w:=by
  by_cases h:18014398509481984<=w
  ·exact h
  ·have:(w+1)*(w+1)<=18014398509481984*18014398509481984:=Nat.mul_le_mul (by omega) (by omega)
   omega
 have w2:w < 36028797018963968:=by
  by_cases h:w < 36028797018963968
  ·exact h
  ·have:36028797018963968*36028797018963968<=w*w:=Nat.mul_le_mul (by omega) (by omega)
   omega
 have hb:=Bool.toNat_le (w*w != n);exact⟨_,_,rfl,by omega,by omega,by omega,by omega⟩
theorem Pv {n:Int}(h0:0<=n)(h1:n < 288230376151711744) :
  ∃ y r,FloatKind.f64.format.sqrt (FloatKind.nearest .f64 n)=some y/\f2i .f64 y .i64=some r/\0<=r/\r < 2147483648:=by
 obtain⟨n,rfl⟩:∃ m:Nat,n=(m:Int):=⟨n.toNat,by omega⟩
 by_cases hn:n=0
 ·subst hn
  exact⟨0,0,by decide,by decide,by omega,by omega⟩
 ·obtain⟨K,i,e,k1,k2,i1,i2⟩:=ade hn (by omega)
  obtain⟨M,p,e2,m1,m2,p1,p2⟩:=auC k1 k2 i1 i2;have hl:M.log2=55:=by
   have a1:M.log2 < 56:=(Nat.log2_lt (by omega)).2 (by omega);have a2:55<=M.log2:=(Nat.le_log2 (by omega)).2 (by omega);omega
  obtain⟨K2,i2,e3,_,k4,q1,q2⟩:=TZ (s:=false) (m:=M) (p:=p) (by omega) (by omega) (by omega);rw [hl] at q1 q2;have e':FloatKind.f64.format.read (FloatKind.nearest .f64 (n:Int))=.number false K i:=e;have hq:qt K2 i2 < 2147483648:=by
   unfold qt;rw [aay,show i2.toNat=0 by omega,Nat.shiftLeft_zero];have hl2:K2.log2=52:=by
    have a1:K2.log2 < 53:=(Nat.log2_lt (by omega)).2 (by omega);have a2:52<=K2.log2:=(Nat.le_log2 (by omega)).2 (by omega);omega
   rw [hl2,Nat.min_eq_left (by omega),Nat.shiftLeft_eq,Nat.one_mul,Nat.div_lt_iff_lt_mul (Nat.two_pow_pos _)];have:2 ^ 22<=2 ^ (-i2).toNat:=Nat.pow_le_pow_right (by decide) (by omega);have:=Nat.mul_le_mul_left 2147483648 this;omega
  refine⟨FloatKind.f64.encode (.number false M p),sgn false (qt K2 i2),?_,?_,?_,?_⟩
  ·show ((FloatKind.f64.format.read (FloatKind.nearest .f64 (n:Int))).root 54).map FloatKind.f64.format.write=_
   rw [e',e2];rfl
  ·unfold f2i
   rw [FP e3];simp only [sgn,Bool.false_eq_true,if_false];have m1:IntKind.min .i64=-9223372036854775808:=by decide
   have m2:IntKind.max .i64=9223372036854775807:=by decide
   rw [if_pos (by omega)]
  ·simp [sgn]
  ·simp only [sgn,Bool.false_eq_true,if_false]
   omega
theorem kf {n:Int}(h:n.natAbs < 9007199254740992) :
  ∃ s m i,FloatKind.f64.decode (FloatKind.nearest .f64 n)=.number s m i/\-1074<=i/\i<=971/\m < 2 ^ 53/\vl (.number s m i)=n*(UU:Int):=by
 have hl:n.natAbs.log2<=52:=by
  by_cases h0:n.natAbs=0
  ·rw [h0];decide
  ·have:=(Nat.log2_lt h0 (k:=53)).2 (by omega)
   omega
 obtain⟨t,m,i,h1,h2,h3⟩:=HW (decide (n < 0)) n.natAbs (.inl hl) (by omega);have h1':FloatKind.f64.decode (FloatKind.nearest .f64 n)=.number t m i:=h1;have hs:sgn (decide (n < 0)) n.natAbs=n:=by
  by_cases hn:n < 0
  ·rw [decide_eq_true hn];simp only [sgn,if_true];omega
  ·rw [decide_eq_false hn];simp only [sgn,Bool.false_eq_true,if_false];omega
 rw [hs] at h3;rcases axq (n:=FloatKind.nearest .f64 n) with ⟨s',m',i',e,e1,e2,e3⟩ | ⟨s',e⟩ | e
 ·have:=h1'.symm.trans e
  injection this with a1 a2 a3;subst a1;subst a2;subst a3;exact⟨t,m,i,h1',h2,e2,e3,h3⟩
 ·rw [h1'] at e;cases e
 ·rw [dc] at e
  obtain⟨s',t',e⟩:=e;have:FloatKind.f64.decode (FloatKind.nearest .f64 n)=.nan s' t':=e;rw [h1'] at this;cases this
theorem MV {n:Int}{s:Bool}{m:Nat}{i:Int}(hi:-1074<=i)(hv:vl (.number s m i)=n*(UU:Int)):sgn s (qt m i)=n:=by
 have hU:=acg;rw [Pl] at hv;have h1:m*2 ^ (i+1074).toNat=n.natAbs*UU:=by
  have:=congrArg Int.natAbs hv
  rwa [Vp,Int.natAbs_mul,Int.natAbs_natCast] at this
 rw [aAJ hi,h1,Nat.mul_div_cancel _ hU];rw [h1,KD] at hv;exact Int.eq_of_mul_eq_mul_right (by omega) hv
theorem Gj {n:Int}(h:n.natAbs < 9007199254740992):f2i .f64 (FloatKind.nearest .f64 n) .i64=some n:=by
 obtain⟨s,m,i,h1,h2,h3,h4,h5⟩:=kf h;unfold f2i;rw [FP h1,MV h2 h5];have m1:IntKind.min .i64=-9223372036854775808:=by decide
 have m2:IntKind.max .i64=9223372036854775807:=by decide
 simp only;rw [if_pos (by omega)]
theorem VD {a b:Int}:a*(UU:Int) < b*(UU:Int) ↔ a < b:=by
 have hU:(0:Int) < (UU:Int):=by have:=acg;omega
 exact⟨fun h=>Int.lt_of_mul_lt_mul_right h (by omega),fun h=>Int.mul_lt_mul_of_pos_right h hU⟩
def wX (n:Nat):Nat->Nat->Nat
 | 0,r=>r
 | k+1,r=>match (r+2 ^ k) with
  | 0=>wX n k r
  | x+1=>if (x+1)*(x+1)<=n then wX n k (x+1) else wX n k r
def isq (n:Nat):Nat:=wX n 29 0
theorem CK {n:Nat}:∀ (k r:Nat),r*r<=n->n < (r+2 ^ k)*(r+2 ^ k)->wX n k r*wX n k r<=n/\n < (wX n k r+1)*(wX n k r+1)
 | 0,r,h1,h2=>⟨h1,by rw [Nat.pow_zero] at h2;exact h2⟩
 | k+1,r,h1,h2=>by
  have hp:=Nat.two_pow_pos k;simp only [wX];split
  ·rename_i h;omega
  ·rename_i x h
   rw [show x+1=r+2 ^ k by omega];by_cases hc:(r+2 ^ k)*(r+2 ^ k)<=n
   ·rw [if_pos hc]
    exact CK k _ hc (by rw [Nat.add_assoc,<- Nat.two_mul,<- Nat.pow_succ'];exact h2)
   ·rw [if_neg hc]
    exact CK k r h1 (by omega)
theorem mD {n:Nat}(h:n < 288230376151711744):isq n*isq n<=n/\n < (isq n+1)*(isq n+1):=
 CK 29 0 (by omega) (by simpa using h)
theorem aje {n:Nat}(h:n < 288230376151711744):isq n < 536870912:=by
 obtain⟨h1,h2⟩:=mD h;by_cases h3:isq n < 536870912
 ·exact h3
 ·have:536870912*536870912<=isq n*isq n:=Nat.mul_le_mul (by omega) (by omega)
  omega
theorem PQ {n a:Nat}(h:n < 288230376151711744)(ha:a*a<=n):a<=isq n:=by
 obtain⟨h1,h2⟩:=mD h;by_cases h3:a<=isq n
 ·exact h3
 ·have:(isq n+1)*(isq n+1)<=a*a:=Nat.mul_le_mul (by omega) (by omega)
  omega
theorem vq {n a:Nat}(h:n < 288230376151711744)(h1:a*a<=n)(h2:n < (a+1)*(a+1)):isq n=a:=by
 have h3:=PQ h h1;obtain⟨h4,h5⟩:=mD h;by_cases h6:isq n<=a
 ·omega
 ·have:(a+1)*(a+1)<=isq n*isq n:=Nat.mul_le_mul (by omega) (by omega)
  omega
def btw (a b:Nat × Nat):Nat × Nat:=
 let x:=a.1+b.1
 let y:=a.2+b.2
 let r:=isq (x*x+y*y)
 (x*67108864 / r,y*67108864 / r)
structure iz (p:Nat × Nat):Prop where
 le:p.2<=p.1
 lo:33554432<=p.1
 hi:p.1<=67108864
theorem sq_bd {x y:Nat}(hx:x<=134217728)(hy:y<=134217728):x*x+y*y<=36028797018963968:=by
 have:=Nat.mul_le_mul hx hx;have:=Nat.mul_le_mul hy hy;omega
theorem ajW {a b:Nat × Nat}(ha:iz a)(hb:iz b):a.1+b.1<=isq ((a.1+b.1)*(a.1+b.1)+(a.2+b.2)*(a.2+b.2))/\isq ((a.1+b.1)*(a.1+b.1)+(a.2+b.2)*(a.2+b.2))<=2*(a.1+b.1):=by
 have h1:=ha.le;have h2:=hb.le;have h3:=ha.hi;have h4:=hb.hi;have h5:=ha.lo;have h6:=hb.lo;generalize hx:a.1+b.1=x at *;generalize hy:a.2+b.2=y at *;have hs:=sq_bd (x:=x) (y:=y) (by omega) (by omega);refine⟨PQ (by omega) (by omega),?_⟩;obtain⟨g1,g2⟩:=mD (n:=x*x+y*y) (by omega);generalize isq (x*x+y*y)=r at *;by_cases h:r<=2*x
 ·exact h
 ·have k1:(2*x+1)*(2*x+1)<=r*r:=Nat.mul_le_mul (by omega) (by omega)
  have k2:y*y<=x*x:=Nat.mul_le_mul (by omega) (by omega);have k3:(2*x+1)*(2*x+1)=4*(x*x)+4*x+1:=by
   rw [Nat.mul_add,Nat.add_mul,Nat.mul_one,Nat.one_mul,Nat.mul_mul_mul_comm];omega
  omega
theorem ph {a b:Nat × Nat}(ha:iz a)(hb:iz b):iz (btw a b):=by
 obtain⟨h1,h2⟩:=ajW ha hb;have h3:=ha.lo;have h4:=hb.lo;have h5:=ha.le;have h6:=hb.le;have e:btw a b=((a.1+b.1)*67108864 / isq ((a.1+b.1)*(a.1+b.1)+(a.2+b.2)*(a.2+b.2)),(a.2+b.2)*67108864 / isq ((a.1+b.1)*(a.1+b.1)+(a.2+b.2)*(a.2+b.2))):=rfl;rw [e];generalize isq ((a.1+b.1)*(a.1+b.1)+(a.2+b.2)*(a.2+b.2))=r at *;have hr0:0 < r:=by omega
 refine⟨Nat.div_le_div_right (by omega),?_,?_⟩
 ·show _<=(a.1+b.1)*67108864 / r
  rw [Nat.le_div_iff_mul_le hr0];omega
 ·show (a.1+b.1)*67108864 / r<=_
  rw [<- Nat.lt_succ_iff,Nat.div_lt_iff_lt_mul hr0];omega
def gO (m:Nat):Nat->Nat->Nat->Nat × Nat->Nat × Nat->Nat × Nat
 | 0,_,_,a,_=>a
 | f+1,lo,hi,a,b=>if m=lo then a else if m=hi then b else
   if (lo+hi) / 2<=m then gO m f ((lo+hi) / 2) hi (btw a b) b else gO m f lo ((lo+hi) / 2) a (btw a b)
def fir (m:Nat):Nat × Nat:=gO m 20 0 524288 (67108864,0) (47453132,47453132)
theorem C4 {m:Nat}:∀ (f lo hi:Nat) (a b:Nat × Nat),iz a->iz b->iz (gO m f lo hi a b)
 | 0,_,_,a,_,ha,_=>ha
 | f+1,lo,hi,a,b,ha,hb=>by
  simp only [gO];split
  ·exact ha
  ·split
   ·exact hb
   ·split
    ·exact C4 f _ _ _ _ (ph ha hb) hb
    ·exact C4 f _ _ _ _ ha (ph ha hb)
theorem ai5 (m:Nat):iz (fir m):=by
 unfold fir;exact C4 20 0 524288 (67108864,0) (47453132,47453132) ⟨Nat.zero_le _,by simp,by simp⟩ ⟨by simp,by simp,by simp⟩
def iD (m:Nat):Int × Int:=if 524288 < m then ((fir (1048576 - m)).2,(fir (1048576 - m)).1) else ((fir m).1,(fir m).2)
def CE (p:Int × Int):Int × Int:=(-p.2,p.1)
def Fb (p:Int × Int):Int × Int:=(-p.1,-p.2)
def dir (m:Int):Int × Int:=
 let r:=(m % 4194304).toNat
 if 2097152<=r then (if 1048576<=r - 2097152 then Fb (CE (iD (r - 2097152 - 1048576))) else Fb (iD (r - 2097152)))
 else if 1048576<=r then CE (iD (r - 1048576)) else iD r
structure PBd (p:Int × Int):Prop where
 h1:-67108864<=p.1
 h2:p.1<=67108864
 h3:-67108864<=p.2
 h4:p.2<=67108864
theorem Ti {p:Int × Int}(h:PBd p):PBd (CE p):=by
 have:=h.h1;have:=h.h2;have:=h.h3;have:=h.h4;exact⟨by simp only [CE];omega,by simp only [CE];omega,by simp only [CE];omega,by simp only [CE];omega⟩
theorem RU {p:Int × Int}(h:PBd p):PBd (Fb p):=by
 have:=h.h1;have:=h.h2;have:=h.h3;have:=h.h4;exact⟨by simp only [Fb];omega,by simp only [Fb];omega,by simp only [Fb];omega,by simp only [Fb];omega⟩
theorem j4 (m:Nat):PBd (iD m):=by
 unfold iD;split
 ·have h:=ai5 (1048576 - m);have:=h.le;have:=h.hi;exact⟨by simp only;omega,by simp only;omega,by simp only;omega,by simp only;omega⟩
 ·have h:=ai5 m;have:=h.le;have:=h.hi;exact⟨by simp only;omega,by simp only;omega,by simp only;omega,by simp only;omega⟩
theorem IU (m:Int):PBd (dir m):=by
 unfold dir;generalize (m % 4194304).toNat=r;simp only;split
 ·split
  ·exact RU (Ti (j4 _))
  ·exact RU (j4 _)
 ·split
  ·exact Ti (j4 _)
  ·exact j4 _
def rdv (n d:Int):Int:=(2*n+d) / (2*d)
end Go.AM
