/- Plain laws of texts of readings: numerals, a text cut, a number read. -/
import Derived.Test.YtnhkllkecbmchaaGreatDoorLT3
import Derived.Test.YtnhkllkecbmchaaGreatDoorLT4
import Derived.Test.YtnhkllkecbmchaaGreatDoorXL2
import Derived.Test.YtnhkllkecbmchaaGreatDoorXA1
namespace Go.AM.K
open Go.LT
set_option linter.unusedVariables false
variable {α:Type}
theorem f61_eq {n:Int}(h1:-9223372036854775808<=n)(h2:n<=9223372036854775807){k:ByteArray->Option α}:f61_0 α n k=k (mkB (Lib.itoa n)):=by
 show fItoa α n k=_
 unfold fItoa;rw [if_pos ⟨h1,h2⟩]
theorem f164_eq {d:Int}(h1:-10 < d)(h2:d < 10){k:Int->Option α}:f164_0 α d k=k (d.natAbs:Int):=by
 show k (if (w64 (0 - d)) > d then (w64 (0 - d)) else d)=_
 rw [w64_in (by omega) (by omega)]
 congr 1
 split <;> omega
theorem tdiv_abs (n:Int):(Int.tdiv n 10).natAbs=n.natAbs / 10:=by
 rw [Int.natAbs_tdiv];rfl
theorem tmod_abs (n:Int):(Int.tmod n 10).natAbs=n.natAbs % 10:=by
 rw [Int.natAbs_tmod];rfl
theorem dig_int {d:Nat}(h:d < 10):strOf [IntKind.wrap .u8 (w64 (48+(d:Int)))]=mkB [UInt8.ofNat (48+d)]:=by
 rw [w64_in (by omega) (by omega),strOf_one]
 have:IntKind.wrap .u8 (48+(d:Int))=48+(d:Int):=by
  have:d=0\/d=1\/d=2\/d=3\/d=4\/d=5\/d=6\/d=7\/d=8\/d=9:=by omega
  rcases this with rfl | rfl | rfl | rfl | rfl | rfl | rfl | rfl | rfl | rfl <;> rfl
 rw [this,show (48+(d:Int)).toNat=48+d by omega]
theorem R69_eq {k1:Int->ByteArray->Bool->Option α}:∀ (m:Nat) (n:Nat) (x:Int) (l:List UInt8),x.natAbs < 10 ^ m->m < n->-9223372036854775808<=x->x<=9223372036854775807->l.length+m<=100 ->
  R69_0_1 α k1 n x (mkB l)=if x=0 then k1 0 (mkB l) false else k1 0 (mkB (Lib.decDigits x.natAbs++l)) false
 | m,0,_,_,_,hn,_,_,_=>absurd hn (Nat.not_lt_zero _)
 | 0,n+1,x,l,hx,_,_,_,_=>by
  have:x=0:=by simp at hx;omega
  subst this
  rfl
 | m+1,n+1,x,l,hx,hn,h1,h2,hl=>by
  show S69_0_1 α x (mkB l) (R69_0_1 α k1 n) k1=_
  show cK (x != 0) (f164_0 α (Int.tmod x 10) _) _=_
  by_cases h0:x=0
  ·subst h0;rfl
  ·rw [show (x != 0)=true by simp [h0],cK_true,if_neg h0]
   have hm:=tmod_abs x
   rw [f164_eq (by omega) (by omega),hm]
   have hd:x.natAbs % 10 < 10:=Nat.mod_lt _ (by decide)
   rw [dig_int hd,mkB_app]
   rw [gK_of (by rw [size_mkB,size_mkB];simp [IntKind.max,IntKind.signed,IntKind.bits];omega)]
   have hq:=tdiv_abs x
   have hx':x.natAbs / 10 < 10 ^ m:=by rw [Nat.pow_succ] at hx;omega
   rw [w64_in (by omega) (by omega),R69_eq m n (Int.tdiv x 10) ([UInt8.ofNat (48+x.natAbs % 10)]++l) (by rw [hq];exact hx') (by omega) (by omega) (by omega) (by simp;omega)]
   by_cases hs:x.natAbs < 10
   ·rw [if_pos (by omega),decDigits_lt hs,Nat.mod_eq_of_lt hs]
   ·rw [if_neg (by omega),hq,decDigits_ge hs,List.append_assoc]
theorem f69_eq {n:Int}(h1:-9223372036854775808<=n)(h2:n<=9223372036854775807){k:ByteArray->Option α}:f69_0 α n k=k (mkB (Lib.itoa n)):=by
 show cK (n == 0) (k (⟨#[48]⟩:ByteArray)) (cK (decide (n < 0)) (R69_0_1 α _ fuel n (mkB [])) (R69_0_1 α _ fuel n (mkB [])))=_
 have hf:=fuel_ge
 have hp:n.natAbs < 10 ^ 20:=by
  have:(10:Nat) ^ 20=100000000000000000000:=by decide
  omega
 by_cases h0:n=0
 ·subst h0
  show k _=_
  rw [show Lib.itoa 0=[48] by unfold Lib.itoa;rw [if_neg (by decide),decDigits_lt (by decide)];rfl]
 ·rw [show (n == 0)=false by simp [h0],cK_false]
  have hlen:=Lib.itoa_length_le n h1 h2
  unfold Lib.itoa at hlen ⊢
  by_cases hneg:n < 0
  ·rw [decide_eq_true hneg,cK_true,R69_eq 20 fuel n [] hp (by omega) h1 h2 (by simp),if_neg h0,if_pos hneg]
   rw [if_pos hneg] at hlen
   rw [show (⟨#[45]⟩:ByteArray)=mkB [45] from rfl,List.append_nil,mkB_app]
   rw [gK_of (by rw [size_mkB,size_mkB];simp [IntKind.max,IntKind.signed,IntKind.bits] at hlen ⊢;omega)]
   rfl
  ·rw [decide_eq_false hneg,cK_false,R69_eq 20 fuel n [] hp (by omega) h1 h2 (by simp),if_neg h0,if_neg hneg]
   rw [if_neg hneg] at hlen
   rw [show n.natAbs=n.toNat by omega]
   rw [show (⟨#[]⟩:ByteArray)=mkB [] from rfl,List.append_nil,mkB_app]
   rw [gK_of (by rw [size_mkB,size_mkB];simp [IntKind.max,IntKind.signed,IntKind.bits] at hlen ⊢;omega)]
   rfl
def in64 (n:Int):Prop:=-9223372036854775808<=n/\n<=9223372036854775807
theorem take_drop_snoc {l:List UInt8}{a i:Nat}{b:UInt8}(h:l[i]?=some b)(ha:a<=i):(l.take (i+1)).drop a=(l.take i).drop a++[b]:=by
 obtain⟨hi,rfl⟩:=List.getElem?_eq_some_iff.1 h
 rw [<- List.take_append_getElem hi,List.drop_append_of_le_length (by simp;omega)]
theorem drop_split {l:List UInt8}{a i:Nat}{b:UInt8}(h:l[i]?=some b)(ha:a<=i):l.drop a=(l.take i).drop a++b::l.drop (i+1):=by
 obtain⟨hi,rfl⟩:=List.getElem?_eq_some_iff.1 h
 have:l=l.take i++l[i]::l.drop (i+1):=by simp
 conv=>lhs;rw [this]
 rw [List.drop_append_of_le_length (by simp;omega)]
theorem R67_eq {s:ByteArray}{c:UInt8}{e:Int}(he:e=(c.toNat:Nat))(hs:s.size < 100000){k1:Int->Int->Bool->Rows->Option α}{k:Rows->Option α}
  (hk:∀ (f:Nat) (d:List ByteArray),f<=s.size->d.length<=s.size->k1 f s.size false (strRows d)=k (strRows (d++[mkB (s.data.toList.drop f)]))) :
  ∀ (m n i f:Nat) (d:List ByteArray),i+m=s.size->m < n->f<=i->d.length<=i->(∀ x ∈ (s.data.toList.take i).drop f,x ≠ c) ->
   R67_0_0 α s e k1 n f i (strRows d)=k (strRows (d++(cutL c (s.data.toList.drop f)).map mkB))
 | m,0,_,_,_,_,hn,_,_,_=>absurd hn (Nat.not_lt_zero _)
 | 0,n+1,i,f,d,hm,_,hf,hd,hx=>by
  have hi:i=s.size:=by omega
  subst hi
  show cK (decide ((s.size:Int) < ((ByteArray.size s:Nat):Int))) _ (k1 f s.size _ (strRows d))=_
  rw [decide_eq_false (by omega),cK_false,hk f d hf hd]
  have ht:s.data.toList.take s.size=s.data.toList:=List.take_of_length_le (by simp)
  rw [ht] at hx
  rw [cutL_none c _ hx];rfl
 | m+1,n+1,i,f,d,hm,hn,hf,hd,hx=>by
  have hi:i < s.data.toList.length:=by rw [Array.length_toList];show i < s.size;omega
  obtain⟨b,hb⟩:∃ b,s.data.toList[i]?=some b:=⟨s.data.toList[i],List.getElem?_eq_getElem hi⟩
  show cK (decide ((i:Int) < ((ByteArray.size s:Nat):Int))) (sixK s i _) _=_
  rw [decide_eq_true (by omega),cK_true,six_at hb]
  have hw:w64 ((i:Int)+1)=((i+1:Nat):Int):=by rw [w64_in (by omega) (by omega)];omega
  rw [drop_split hb hf,cutL_step c _ hx]
  by_cases h32:b=c
  ·subst h32
   rw [show ((((b:UInt8).toNat:Nat):Int) == e)=true by rw [he];simp,cK_true,gK_of (decide_eq_true ⟨by omega,by omega,by omega⟩),gK_of (ap_str (by omega)),if_pos rfl,hw,strRows_app]
   rw [R67_eq he hs hk m n (i+1) (i+1) _ (by omega) (by omega) (Nat.le_refl _) (by simp;omega) (by intro x hx;rw [List.drop_of_length_le (by simp;omega)] at hx;cases hx)]
   rw [mkB_extract,show ((f:Int).toNat)=f by omega,show ((i:Int).toNat)=i by omega,<- List.drop_take]
   simp
  ·have hne:((((b:UInt8).toNat:Nat):Int) == e)=false:=by
    have:b.toNat ≠ c.toNat:=fun h=>h32 (UInt8.toNat_inj.1 h)
    rw [he];simp;omega
   rw [hne,cK_false,if_neg h32,hw]
   rw [R67_eq he hs hk m n (i+1) f d (by omega) (by omega) (by omega) (by omega) (by
    rw [take_drop_snoc hb hf]
    intro x hx'
    rcases List.mem_append.1 hx' with h | h
    ·exact hx x h
    ·rw [List.mem_singleton.1 h];exact h32)]
   rw [<- take_drop_snoc hb hf,List.drop_take]
   congr 4
   conv=>lhs;rw [<- List.take_append_drop (i+1 - f) (s.data.toList.drop f)]
   rw [List.drop_drop,show f+(i+1 - f)=i+1 by omega]
theorem f67_eq {s:ByteArray}{c:UInt8}{e:Int}(he:e=(c.toNat:Nat))(hs:s.size < 100000){k:Rows->Option α}:f67_0 α s e k=k (strRows (cutBA c s)):=by
 have hf:=fuel_ge
 refine (R67_eq he hs (k:=k) (fun f d h1 h2=>?_) s.size fuel 0 0 [] (by omega) (by omega) (Nat.le_refl _) (Nat.le_refl _) (by simp)).trans ?_
 ·rw [gK_of (decide_eq_true ⟨by omega,by omega,by omega⟩),gK_of (ap_str (by omega)),strRows_app,mkB_extract]
  rw [show ((f:Int).toNat)=f by omega,show (((s.size:Nat):Int).toNat)=s.size by omega,List.take_of_length_le (by simp)]
 ·rfl
theorem wrap_dig {b:UInt8}(h:isDig b=true):IntKind.wrap .u8 (((b.toNat:Nat):Int) - 48)=((b.toNat - 48:Nat):Int):=by
 simp only [isDig,decide_eq_true_eq] at h
 have hd:b.toNat - 48 < 10:=by omega
 rw [show (((b.toNat:Nat):Int) - 48)=((b.toNat - 48:Nat):Int) by omega]
 generalize b.toNat - 48=d at hd
 have:d=0\/d=1\/d=2\/d=3\/d=4\/d=5\/d=6\/d=7\/d=8\/d=9:=by omega
 rcases this with rfl | rfl | rfl | rfl | rfl | rfl | rfl | rfl | rfl | rfl <;> rfl
theorem R68_eq {s:ByteArray}(hs:s.size < 100000){k1:Option α}{k2:Int->Int->Bool->Option α} :
  ∀ (m n i v:Nat),i+m=s.size->m < n->m<=10->v*10 ^ m+10 ^ m<=10000000000 ->
   R68_0_2 α s k1 k2 n v i=if (s.data.toList.drop i).all isDig=true then k2 (nv v (s.data.toList.drop i):Nat) s.size false else k1
 | m,0,_,_,_,hn,_,_=>absurd hn (Nat.not_lt_zero _)
 | 0,n+1,i,v,hm,_,_,_=>by
  have hi:i=s.size:=by omega
  subst hi
  show cK (decide ((s.size:Int) < ((ByteArray.size s:Nat):Int))) _ (k2 v s.size _)=_
  rw [decide_eq_false (by omega),cK_false,List.drop_of_length_le (by simp)]
  rfl
 | m+1,n+1,i,v,hm,hn,h10,hv=>by
  have hi:i < s.data.toList.length:=by rw [Array.length_toList];show i < s.size;omega
  obtain⟨b,hb⟩:∃ b,s.data.toList[i]?=some b:=⟨s.data.toList[i],List.getElem?_eq_getElem hi⟩
  have hdrop:s.data.toList.drop i=b::s.data.toList.drop (i+1):=by
   have:=drop_split hb (Nat.le_refl i)
   rwa [List.drop_of_length_le (l:=List.take i _) (by simp;omega)] at this
  show cK (decide ((i:Int) < ((ByteArray.size s:Nat):Int))) (sixK s i _) _=_
  rw [decide_eq_true (by omega),cK_true,six_at hb,hdrop,List.all_cons]
  by_cases hd:isDig b=true
  ·have hd':=hd
   simp only [isDig,decide_eq_true_eq] at hd'
   rw [decide_eq_false (by omega),cK_false,six_at hb,decide_eq_false (by omega),cK_false,six_at hb,wrap_dig hd]
   have hp:1<=10 ^ m:=Nat.one_le_pow _ _ (by decide)
   have e10:10 ^ (m+1)=10 ^ m*10:=Nat.pow_succ ..
   have hv10:v*10 ^ (m+1)=v*10*10 ^ m:=by rw [e10,Nat.mul_comm (10 ^ m) 10,Nat.mul_assoc]
   have hle:(v*10+(b.toNat - 48))*10 ^ m+10 ^ m<=10000000000:=by
    have h1:(v*10+(b.toNat - 48))*10 ^ m=v*10*10 ^ m+(b.toNat - 48)*10 ^ m:=Nat.add_mul ..
    have h2:(b.toNat - 48)*10 ^ m<=9*10 ^ m:=Nat.mul_le_mul_right _ (by omega)
    omega
   have hvs:v*10+(b.toNat - 48) < 10000000000:=by
    have:(v*10+(b.toNat - 48))*1<=(v*10+(b.toNat - 48))*10 ^ m:=Nat.mul_le_mul_left _ hp
    omega
   have hw:w64 ((w64 (10*(v:Int)))+(w64 ((b.toNat - 48:Nat):Int)))=((v*10+(b.toNat - 48):Nat):Int):=by
    rw [w64_in (n:=10*(v:Int)) (by omega) (by omega),w64_in (n:=((b.toNat - 48:Nat):Int)) (by omega) (by omega),w64_in (by omega) (by omega)]
    omega
   have hw2:w64 ((i:Int)+1)=((i+1:Nat):Int):=by rw [w64_in (by omega) (by omega)];omega
   rw [hw,hw2,R68_eq hs m n (i+1) _ (by omega) (by omega) (by omega) hle,hd,Bool.true_and,nv_cons]
  ·have hd':isDig b=false:=by simpa using hd
   rw [hd',Bool.false_and,if_neg (by decide)]
   simp only [isDig,decide_eq_false_iff_not] at hd'
   by_cases h48:b.toNat < 48
   ·rw [decide_eq_true (by omega),cK_true]
   ·rw [decide_eq_false (by omega),cK_false,six_at hb,decide_eq_true (by omega),cK_true]
theorem num_cons (c:UInt8)(r:List UInt8):num? (c::r)=if c=45 then (if canon r (r.length+1) then some (-(nv 0 r:Int)) else none) else (if canon (c::r) (r.length+1) then some (nv 0 (c::r):Int) else none):=rfl
theorem f68_eq {s:ByteArray}(hs:s.size < 100000){k:Int->Bool->Option α} :
  f68_0 α s 7 k=match num? s.data.toList with | some v=>k v true | none=>k 0 false:=by
 have hf:=fuel_ge
 have hsz:s.data.toList.length=s.size:=by simp
 have digs:∀ (i:Nat) (K:Nat->Option α) (k1:Option α) (k2:Int->Int->Bool->Option α),i<=s.size->s.size - i<=7->(∀ v:Nat,v < 10000000000->k2 v s.size false=K v) ->
   L68_0_2 α s k1 k2 0 i=if (s.data.toList.drop i).all isDig=true then K (nv 0 (s.data.toList.drop i)) else k1:=fun i K k1 k2 hi h7 hK=>by
  have h10:10 ^ (s.size - i)<=10 ^ 7:=Nat.pow_le_pow_right (by decide) h7
  have e7:(10:Nat) ^ 7=10000000:=by decide
  have:=R68_eq hs (k1:=k1) (k2:=k2) (s.size - i) fuel i 0 (by omega) (by omega) (by omega) (by omega)
  refine this.trans ?_
  split
  ·rename_i hall
   have hlt:=nv_lt _ 0 hall
   rw [hK]
   have:(s.data.toList.drop i).length=s.size - i:=by simp
   rw [this] at hlt
   omega
  ·rfl
 cases hl:s.data.toList with
 | nil=>
  have h0:s.size=0:=by rw [<- hsz,hl];rfl
  show cK (decide ((0:Int) < ((ByteArray.size s:Nat):Int))) _ (cK (((ByteArray.size s:Nat):Int) == 0) _ _)=_
  rw [h0]
  rfl
 | cons c r=>
  have hlen:s.size=r.length+1:=by rw [<- hsz,hl];rfl
  have h0:s.data.toList[0]?=some c:=by rw [hl];rfl
  have h0':∀ f:UInt8->Option α,sixK s (0:Int) f=f c:=fun f=>six_at (i:=0) h0
  show cK (decide ((0:Int) < ((ByteArray.size s:Nat):Int))) (sixK s 0 _) _=_
  rw [decide_eq_true (by omega),cK_true]
  rw [h0']
  rw [num_cons]
  by_cases h45:c=45
  ·subst h45
   rw [show ((((45:UInt8).toNat:Nat):Int) == 45)=true from rfl,cK_true,if_pos rfl]
   show cK (((ByteArray.size s:Nat):Int) == 1) _ (cK (decide ((7:Int) < (w64 (((ByteArray.size s:Nat):Int) - 1)))) _ (sixK s 1 _))=_
   cases r with
   | nil=>rw [hlen];rfl
   | cons b q=>
    have h1:s.data.toList[1]?=some b:=by rw [hl];rfl
    have h1':∀ f:UInt8->Option α,sixK s (1:Int) f=f b:=fun f=>six_at (i:=1) h1
    simp only [List.length_cons] at hlen
    rw [show (((ByteArray.size s:Nat):Int) == 1)=false by simp;omega,cK_false,w64_in (by omega) (by omega)]
    have hcan:canon (b::q) ((b::q).length+1)=(isDig b && q.all isDig && (b != 48) && decide (q.length+1<=7)):=by
     have e:((b::q).length+1 == 1)=false:=by simp
     unfold canon
     rw [e]
     simp [bne]
    by_cases h7:q.length+1<=7
    ·rw [decide_eq_false (by omega),cK_false]
     rw [h1']
     have hd:s.data.toList.drop 1=b::q:=by rw [hl];rfl
     by_cases h48:b=48
     ·subst h48
      rw [hcan]
      rw [show ((((48:UInt8).toNat:Nat):Int) == 48)=true from rfl,cK_true,decide_eq_true (by omega),cK_true]
      simp
     ·have hne:((((b:UInt8).toNat:Nat):Int) == 48)=false:=by
       have:b.toNat ≠ 48:=fun h=>h48 (UInt8.toNat_inj.1 (by simpa using h))
       simp;omega
      rw [hne,cK_false]
      refine (digs 1 (fun v=>k (-(v:Int)) true) _ _ (by omega) (by omega) (fun v hv=>by
       show k (w64 (0 - (v:Int))) true=k (-(v:Int)) true
       rw [w64_in (by omega) (by omega)];congr 1;omega)).trans ?_
      rw [hd,hcan]
      by_cases hall:(b::q).all isDig=true
      ·rw [if_pos hall]
       simp only [List.all_cons] at hall
       rw [hall,show (b != 48)=true by simp [h48],decide_eq_true h7];rfl
      ·rw [if_neg hall]
       have hall':(isDig b && q.all isDig)=false:=by simpa using hall
       rw [hall'];rfl
    ·rw [decide_eq_true (by omega),cK_true,hcan,decide_eq_false h7,Bool.and_false];rfl
  ·have hne:((((c:UInt8).toNat:Nat):Int) == 45)=false:=by
    have:c.toNat ≠ 45:=fun h=>h45 (UInt8.toNat_inj.1 (by simpa using h))
    simp;omega
   rw [hne,cK_false,if_neg h45]
   show cK (((ByteArray.size s:Nat):Int) == 0) _ (cK (decide ((7:Int) < (w64 (((ByteArray.size s:Nat):Int) - 0)))) _ (sixK s 0 _))=_
   rw [show (((ByteArray.size s:Nat):Int) == 0)=false by rw [beq_eq_false_iff_ne];omega,cK_false,w64_in (by omega) (by omega)]
   have hcan:canon (c::r) (r.length+1)=(isDig c && r.all isDig && (c != 48 || r.length == 0) && decide (r.length+1<=7)):=by
    unfold canon
    simp [bne]
   by_cases h7:r.length+1<=7
   ·rw [decide_eq_false (by omega),cK_false]
    rw [h0']
    have fin:∀ b:Bool,(c != 48 || r.length == 0)=true->L68_0_2 α s (k 0 false) (fun (x37:Int) (_:Int) (_:Bool)=>k x37 true) 0 0=match (if canon (c::r) (r.length+1)=true then some ((nv 0 (c::r):Nat):Int) else none) with | some v=>k v true | none=>k 0 false:=fun _ hh=>by
     refine (digs 0 (fun v=>k (v:Int) true) _ _ (by omega) (by omega) (fun v hv=>rfl)).trans ?_
     rw [List.drop_zero,hl,hcan,hh,decide_eq_true h7]
     by_cases hall:(c::r).all isDig=true
     ·rw [if_pos hall]
      simp only [List.all_cons] at hall
      rw [hall];rfl
     ·rw [if_neg hall]
      have hall':(isDig c && r.all isDig)=false:=by simpa using hall
      rw [hall'];rfl
    by_cases h48:c=48
    ·subst h48
     rw [show ((((48:UInt8).toNat:Nat):Int) == 48)=true from rfl,cK_true]
     by_cases hr:r.length=0
     ·rw [decide_eq_false (by omega),cK_false]
      exact fin false (by simp [hr])
     ·rw [decide_eq_true (by omega),cK_true,hcan]
      simp [hr]
    ·have hne:((((c:UInt8).toNat:Nat):Int) == 48)=false:=by
      have:c.toNat ≠ 48:=fun h=>h48 (UInt8.toNat_inj.1 (by simpa using h))
      simp;omega
     rw [hne,cK_false]
     exact fin false (by simp [h48])
   ·rw [decide_eq_true (by omega),cK_true,hcan,decide_eq_false h7,Bool.and_false];rfl
theorem cut_join (c:UInt8):∀ (x:List UInt8) (r:List (List UInt8)),(∀ l ∈ x::r,∀ b ∈ l,b ≠ c)->cutL c (Lib.join (x::r) [c])=x::r
 | x,[],h=>by rw [Lib.join_one];exact cutL_none c x (h x (by simp))
 | x,y::r,h=>by
  have e:Lib.join (x::y::r) [c]=x++c::Lib.join (y::r) [c]:=by
   rw [Lib.join_cons,Lib.join_cons]
   simp [Lib.joinTail]
  rw [e,cutL_append c x _ (h x (by simp)),cut_join c y r fun l hl=>h l (List.mem_cons_of_mem _ hl)]
theorem join_len (x:List UInt8)(r:List (List UInt8)){B:Nat}(hx:x.length<=B)(h:∀ l ∈ r,l.length<=B):(Lib.join (x::r) [32]).length<=B+(B+1)*r.length:=by
 rw [Lib.join_cons]
 have:∀ (r:List (List UInt8)),(∀ l ∈ r,l.length<=B)->(Lib.joinTail [32] r).length<=(B+1)*r.length:=by
  intro r
  induction r with
  | nil=>intro _;simp [Lib.joinTail]
  | cons y r ih=>
   intro h
   have h1:=ih fun l hl=>h l (List.mem_cons_of_mem _ hl)
   have h2:=h y (by simp)
   simp only [Lib.joinTail,List.map_cons,List.flatten_cons,List.length_append,List.length_cons,List.length_nil] at h1 ⊢
   rw [Nat.mul_add,Nat.mul_one]
   omega
 have:=this r h
 rw [List.length_append]
 omega
end Go.AM.K
