/- The admittance of quarter waves, and its reflection, as chapter 4 has them. -/
import Derived.Test.YtaondhhdefbfkaaGreatYR1
namespace Go.AM.K
open Go.AM
set_option linter.unusedVariables false
set_option linter.unusedSimpArgs false
variable {α:Type}
theorem f45_eq {n lo hi:Int}{k:Bool->Option α}:f45_0 α n lo hi k=k (decide (lo<=n/\n<=hi)):=by
 simp only [f45_0,f45_0g]
 by_cases h:lo<=n
 ·rw [decide_eq_true h,cK_true]
  by_cases h2:n<=hi
  ·rw [decide_eq_true h2,decide_eq_true ⟨h,h2⟩]
  ·rw [decide_eq_false h2,decide_eq_false (fun q=>h2 q.2)]
 ·rw [decide_eq_false h,cK_false,decide_eq_false (fun q=>h q.1)]
theorem f22_eq {a b n:Int}(h0:0<=n)(h1:n<=1000000000){k:Bool->Option α}:f22_0 α a b n k=k (decide ((-n<=a/\a<=n)/\b<=n)):=by
 simp only [f22_0,f22_0g,f45_eq]
 rw [w64_in (n:=0 - n) (by omega) (by omega),Int.zero_sub]
 by_cases h:-n<=a/\a<=n
 ·rw [decide_eq_true h,cK_true]
  by_cases h2:b<=n
  ·rw [decide_eq_true h2,decide_eq_true ⟨h,h2⟩]
  ·rw [decide_eq_false h2,decide_eq_false (fun q=>h2 q.2)]
 ·rw [decide_eq_false h,cK_false,decide_eq_false (fun q=>h q.1)]
theorem f24_eq {a b:Int}(hb:0 < b)(hb2:b < 9223372036854775807)(hg:Int.gcd a b=1){k:Bool->Option α}:f24_0 α a b k=k true:=by
 have h:=dv_abs a b
 rw [hg] at h
 simp only [f24_0,f24_0g]
 rw [f46_eq (by omega),decide_eq_true hb,cK_true]
 generalize dv a b=g at *
 rcases (show g=1\/g=-1 by omega) with e | e
 ·rw [e,show ((1:Int) == 1)=true from rfl,cK_true]
 ·rw [e,show ((-1:Int) == 1)=false from rfl,cK_false];rfl
theorem f17_eq {a b:Int}(ha:0 < a)(hb:0 < b)(hb2:b < 9223372036854775807)(hg:Int.gcd a b=1){k:Int->Option α}:f17_0 α a b k=if a<=100/\b<=100 then k 0 else k 2:=by
 simp only [f17_0,f17_0g,f43_0,f43_0g,f18_0,f18_0g]
 rw [f24_eq hb hb2 hg,Bool.not_true,cK_false,f22_eq (by decide) (by decide)]
 by_cases c:a<=100/\b<=100
 ·rw [if_pos c,decide_eq_true (show (-100<=a/\a<=100)/\b<=100 by omega),Bool.not_true,cK_false,show ((0:Int) != 0)=false from rfl,cK_false,decide_eq_false (by omega),cK_false]
 ·rw [if_neg c,decide_eq_false (show ¬ ((-100<=a/\a<=100)/\b<=100) by omega),Bool.not_false,cK_true];rfl
structure Low (p:Int × Int):Prop where
 a:0 < p.1
 b:0 < p.2
 g:Int.gcd p.1 p.2=1
 c:p.2<=1000000000
theorem ixK_P2 {l:List (Int × Int)}{i:Nat}(h:i < l.length){x:Option α}:ixK (l.map rP2) (i:Int) 2 x=x:=ixK_m (enc:=rP2) (fun _=>rfl) (by omega) (by omega)
theorem ldK_P2 {l:List (Int × Int)}{i:Nat}{p:Int × Int}(h:l[i]?=some p){f:Int->Int->Option α}:ldK (l.map rP2) (Int.toNat (i:Int)) 0 [.int .i64,.int .i64] f=f p.1 p.2:=by
 rw [Int.toNat_natCast]
 unfold ldK
 have hi:=(List.getElem?_eq_some_iff.1 h).1
 rw [decide_eq_true (by simpa using hi)]
 have:rowAt (l.map rP2) i=rP2 p:=by simp [rowAt,h]
 rw [this]
 rfl
def smallF (p:Int × Int):Prop:=p.1<=100/\p.2<=100
theorem R7_go {l:List (Int × Int)}(hA:l.length<=100)(hl:∀ p ∈ l,Low p){k1:Int->Option α}{k2:Int->Bool->Option α}{Y:Option α}(h2:∀ x b,k2 x b=Y) :
  ∀ (rest:List (Int × Int)) (i n:Nat),l.drop i=rest->i<=l.length->rest.length < n ->
  R7_0_0 α (l.length:Int) (l.map rP2) k1 k2 n (i:Int)=Y/\(∀ p ∈ rest,smallF p)\/R7_0_0 α (l.length:Int) (l.map rP2) k1 k2 n (i:Int)=k1 2:=by
 intro rest
 induction rest with
 | nil=>
  intro i n hd hi hn
  obtain⟨n,rfl⟩:∃ n',n=n'+1:=⟨n - 1,by simp only [List.length_nil] at hn;omega⟩
  have hl':l.length<=i:=List.drop_eq_nil_iff.1 hd
  refine .inl ⟨?_,fun p hp=>by cases hp⟩
  rw [R7_0_0]
  simp only [S7_0_0,S7_0_0g]
  rw [decide_eq_false (by omega),cK_false,h2]
 | cons p rs ih=>
  intro i n hd hi hn
  obtain⟨n,rfl⟩:∃ n',n=n'+1:=⟨n - 1,by omega⟩
  have hlt:i < l.length:=by
   by_cases h:i < l.length
   ·exact h
   ·rw [List.drop_eq_nil_of_le (by omega)] at hd;cases hd
  have hg:l[i]?=some p:=by
   have:=congrArg List.head? hd
   rw [List.head?_drop] at this
   exact this
  have hd':l.drop (i+1)=rs:=by
   have:=congrArg List.tail hd
   rw [List.tail_drop] at this
   exact this
  have hw:w64 ((i:Int)+1)=((i+1:Nat):Int):=by rw [w64_in (by omega) (by omega)];omega
  have hn':rs.length < n:=by simp only [List.length_cons] at hn;omega
  have hp:=hl p (List.mem_of_getElem? hg)
  have step:R7_0_0 α (l.length:Int) (l.map rP2) k1 k2 (n+1) (i:Int)=if p.1<=100/\p.2<=100 then R7_0_0 α (l.length:Int) (l.map rP2) k1 k2 n ((i+1:Nat):Int) else k1 2:=by
   rw [R7_0_0,S7_0_0,S7_0_0g,decide_eq_true (by omega),cK_true,ixK_P2 hlt]
   refine (ldK_P2 hg).trans ?_
   rw [f17_eq hp.a hp.b (by have:=hp.c;omega) hp.g,hw]
   rfl
  rw [step]
  by_cases c:p.1<=100/\p.2<=100
  ·rw [if_pos c]
   rcases ih (i+1) n hd' (by omega) hn' with ⟨h,hs⟩ | h
   ·exact .inl ⟨h,fun q hq=>by
     rcases List.mem_cons.1 hq with e | e
     ·subst e;exact c
     ·exact hs q e⟩
   ·exact .inr h
  ·rw [if_neg c]
   exact .inr rfl
def qstep (p y:Int × Int):Int × Int:=ovr ((ovr (p.1*p.1) (p.2*p.2)).1*y.2) ((ovr (p.1*p.1) (p.2*p.2)).2*y.1)
theorem qstep_ok {p y:Int × Int}(hp:Low p)(hs:smallF p)(hy:Low y)(hy1:y.1<=1000000000):(0 < (qstep p y).1/\0 < (qstep p y).2/\Int.gcd (qstep p y).1 (qstep p y).2=1)/\(qstep p y).1*(p.2*p.2*y.1)=p.1*p.1*y.2*(qstep p y).2 /\
  ((0 < (ovr (p.1*p.1) (p.2*p.2)).1/\(ovr (p.1*p.1) (p.2*p.2)).1<=10000)/\0 < (ovr (p.1*p.1) (p.2*p.2)).2/\(ovr (p.1*p.1) (p.2*p.2)).2<=10000):=by
 have pa:=hp.a;have pb:=hp.b;have ya:=hy.a;have yb:=hy.b
 have m1:=Int.mul_pos pa pa
 have m2:=Int.mul_pos pb pb
 have b1:=mulB (x:=p.1) (y:=p.1) (A:=100) (B:=100) (by omega) hs.1 (by omega) hs.1
 have b2:=mulB (x:=p.2) (y:=p.2) (A:=100) (B:=100) (by omega) hs.2 (by omega) hs.2
 obtain⟨o1,o2,o3,o4,o5,o6⟩:=ovr_ok (n:=p.1*p.1) (d:=p.2*p.2) m2
 have o7:=o5 (by omega)
 have o8:=o6 m1
 unfold qstep
 generalize ovr (p.1*p.1) (p.2*p.2)=u at *
 have n1:=Int.mul_pos o8 yb
 have n2:=Int.mul_pos o1 ya
 obtain⟨q1,q2,q3,q4,q5,q6⟩:=ovr_ok (n:=u.1*y.2) (d:=u.2*y.1) n2
 have q8:=q6 n1
 generalize ovr (u.1*y.2) (u.2*y.1)=v at *
 refine⟨⟨q8,q1,q3⟩,?_,⟨o8,by omega⟩,o1,by omega⟩
 -- v1 u2 y1=u1 y2 v2 and u1 p2²=p1² u2
 refine Int.eq_of_mul_eq_mul_right (show u.2 ≠ 0 by omega) ?_
 have e1:v.1*(p.2*p.2*y.1)*u.2=v.1*(u.2*y.1)*(p.2*p.2):=by grind
 have e2:p.1*p.1*y.2*v.2*u.2=p.1*p.1*u.2*(y.2*v.2):=by grind
 rw [e1,q2,e2,<- o2];grind
theorem V7_go {k1 k2:Int->Int->Option α}:∀ (ps:List (Int × Int × Int)) (y:Int × Int),(∀ p ∈ ps,Low p.2/\smallF p.2)->Low y->y.1<=1000000000 ->
  (∃ a b,V7_0_1 α k1 k2 ps y.1 y.2=k2 a b)\/(V7_0_1 α k1 k2 ps y.1 y.2=k1 (ps.foldl (fun y p=>qstep p.2 y) y).1 (ps.foldl (fun y p=>qstep p.2 y) y).2 /\
   ∀ qs rs,ps=qs++rs->Low (qs.foldl (fun y p=>qstep p.2 y) y)/\(qs.foldl (fun y p=>qstep p.2 y) y).1<=1000000000):=by
 intro ps
 induction ps with
 | nil=>
  intro y _ hy hy1
  refine .inr ⟨rfl,fun qs rs e=>?_⟩
  have:qs=[]:=by
   cases qs with
   | nil=>rfl
   | cons=>cases e
  subst this
  exact⟨hy,hy1⟩
 | cons p ps ih=>
  intro y hps hy hy1
  obtain⟨hp,hs⟩:=hps p (List.mem_cons_self ..)
  obtain⟨⟨s1,s2,s3⟩,s4,⟨s5,s6⟩,s7,s8⟩:=qstep_ok hp hs hy hy1
  have hyc:=hy.c
  have hya:=hy.a
  have hyb:=hy.b
  have pa:=hp.a;have pb:=hp.b
  have b1:=mulB (x:=p.2.1) (y:=p.2.1) (A:=100) (B:=100) (by omega) hs.1 (by omega) hs.1
  have b2:=mulB (x:=p.2.2) (y:=p.2.2) (A:=100) (B:=100) (by omega) hs.2 (by omega) hs.2
  have m2:=Int.mul_pos pb pb
  have c1:=mulB (x:=(ovr (p.2.1*p.2.1) (p.2.2*p.2.2)).1) (y:=y.2) (A:=10000) (B:=1000000000) (by omega) s6 (by omega) hyc
  have c2:=mulB (x:=(ovr (p.2.1*p.2.1) (p.2.2*p.2.2)).2) (y:=y.1) (A:=10000) (B:=1000000000) (by omega) s8 (by omega) hy1
  have c3:=Int.mul_pos s7 hya
  have step:V7_0_1 α k1 k2 (p::ps) y.1 y.2=if (qstep p.2 y).1<=1000000000/\(qstep p.2 y).2<=1000000000 then V7_0_1 α k1 k2 ps (qstep p.2 y).1 (qstep p.2 y).2 else k2 (qstep p.2 y).1 (qstep p.2 y).2:=by
   rw [V7_0_1]
   simp only [S7_0_1,S7_0_1g,f18_0,f18_0g,f20_0,f20_0g,f21_0,f21_0g]
   rw [w64_in (n:=p.2.1*p.2.1) (by omega) (by omega),w64_in (n:=p.2.2*p.2.2) (by omega) (by omega),f25_eq (by omega) (by omega) m2 (by omega)]
   rw [w64_in (n:=(ovr (p.2.1*p.2.1) (p.2.2*p.2.2)).1*y.2) (by omega) (by omega),w64_in (n:=(ovr (p.2.1*p.2.1) (p.2.2*p.2.2)).2*y.1) (by omega) (by omega),f25_eq (by omega) (by omega) c3 (by omega),f22_eq (by decide) (by decide)]
   show cK (!decide ((-1000000000<=(qstep p.2 y).1/\(qstep p.2 y).1<=1000000000)/\(qstep p.2 y).2<=1000000000)) (k2 (qstep p.2 y).1 (qstep p.2 y).2) (V7_0_1 α k1 k2 ps (qstep p.2 y).1 (qstep p.2 y).2)=_
   rw [cK_nd]
   by_cases c:(qstep p.2 y).1<=1000000000/\(qstep p.2 y).2<=1000000000
   ·rw [if_pos c,if_pos (show (-1000000000<=(qstep p.2 y).1/\(qstep p.2 y).1<=1000000000)/\(qstep p.2 y).2<=1000000000 by omega)]
   ·rw [if_neg c,if_neg (show ¬ ((-1000000000<=(qstep p.2 y).1/\(qstep p.2 y).1<=1000000000)/\(qstep p.2 y).2<=1000000000) by omega)]
  rw [step]
  by_cases c:(qstep p.2 y).1<=1000000000/\(qstep p.2 y).2<=1000000000
  ·rw [if_pos c]
   rcases ih (qstep p.2 y) (fun q hq=>hps q (List.mem_cons_of_mem _ hq)) ⟨s1,s2,s3,c.2⟩ c.1 with h | ⟨h,hf⟩
   ·exact .inl h
   ·refine .inr ⟨h,fun qs rs e=>?_⟩
    cases qs with
    | nil=>exact⟨hy,hy1⟩
    | cons q qs=>
     simp only [List.cons_append,List.cons.injEq] at e
     obtain⟨rfl,e⟩:=e
     exact hf qs rs e
  ·rw [if_neg c]
   exact .inl ⟨_,_,rfl⟩
end Go.AM.K
