/- Quarter waves in fractions: the admittance, the reflection, and fractions compared. -/
import Derived.Test.YtaondhhdefbfkaaGreatYR2
namespace Go.AM.K
open Go.AM
set_option linter.unusedVariables false
set_option linter.unusedSimpArgs false
variable {α:Type}
def lowF (n:Int):Int × Int:=ovr n 10000
theorem lowF_ok {n:Int}(h:0 < n):Low (lowF n)/\(lowF n).1*10000=n*(lowF n).2/\(lowF n).1<=n:=by
 obtain⟨o1,o2,o3,o4,o5,o6⟩:=ovr_ok (n:=n) (d:=10000) (by decide)
 exact⟨⟨o6 h,o1,o3,by unfold lowF;omega⟩,o2,(o5 (by omega)).2⟩
def backY (l:List (Int × Int)):List (Int × Int × Int):=l.zipIdx.reverse.map fun p=>((p.2:Nat),p.1.1,p.1.2)
def exP (y:Int × Int × Int):List Value:=[.int .i64 y.1,.agg #[.int .i64 y.2.1,.int .i64 y.2.2]]
theorem decL_map:∀ (ys:List (Int × Int × Int)),decL xIP (ys.map exP)=some ys
 | []=>rfl
 | y::ys=>by
  have ih:=decL_map ys
  rw [List.map_cons]
  unfold decL
  rw [ih]
  rfl
theorem back_ex (l:List (Int × Int)):backX l=(backY l).map exP:=by
 unfold backX backY
 rw [List.map_map]
 rfl
theorem qK_back {l:List (Int × Int)}(h:l.length<=1000000){f:List (Int × Int × Int)->Option α}:qK (q44 (l.map rP2)) xIP f=f (backY l):=by
 unfold qK q44
 rw [pairsOf_map]
 simp only
 rw [if_pos h]
 show xK xIP (backX l) f=_
 unfold xK
 rw [back_ex,decL_map]
theorem backY_snd (l:List (Int × Int)):(backY l).map (fun p=>p.2)=l.reverse:=by
 unfold backY
 rw [List.map_map]
 have:((fun p:Int × Int × Int=>p.2) ∘ fun p:(Int × Int) × Nat=>(((p.2:Nat):Int),p.1.1,p.1.2))=fun p=>p.1:=rfl
 rw [this,List.map_reverse]
 congr 1
 exact List.zipIdx_map_fst 0 l
def yq (on:Int × Int)(l:List (Int × Int)):Int × Int:=l.foldr (fun p y=>qstep p y) on
theorem fold_back (on:Int × Int)(l:List (Int × Int)):(backY l).foldl (fun y p=>qstep p.2 y) on=yq on l:=by
 have h:(backY l).foldl (fun y p=>qstep p.2 y) on=((backY l).map fun p=>p.2).foldl (fun y p=>qstep p y) on:=by rw [List.foldl_map]
 rw [h,backY_snd,List.foldl_reverse]
 rfl
theorem yq_val {on:Int}(ho:0 < on):∀ (ns:List Int),(∀ n ∈ ns,0 < n)->(∀ n ∈ ns,smallF (lowF n))->(∀ t s,ns=t++s->Low (yq (lowF on) (s.map lowF))/\(yq (lowF on) (s.map lowF)).1<=1000000000) ->
  (yq (lowF on) (ns.map lowF)).1*(yv ns on).2=(yv ns on).1*(yq (lowF on) (ns.map lowF)).2:=by
 intro ns
 induction ns with
 | nil=>intro _ _ _;exact (lowF_ok ho).2.1
 | cons n r ih=>
  intro h1 h2 h3
  have hr:=ih (fun x hx=>h1 x (List.mem_cons_of_mem _ hx)) (fun x hx=>h2 x (List.mem_cons_of_mem _ hx)) (fun t s e=>h3 (n::t) s (by rw [e];rfl))
  obtain⟨hl,hb⟩:=h3 [n] r rfl
  have hn:=lowF_ok (h1 n (List.mem_cons_self ..))
  obtain⟨_,q2,_⟩:=qstep_ok hn.1 (h2 n (List.mem_cons_self ..)) hl hb
  show (qstep (lowF n) (yq (lowF on) (r.map lowF))).1*(100000000*(yv r on).1)=n*n*(yv r on).2*(qstep (lowF n) (yq (lowF on) (r.map lowF))).2
  have ya:=hl.a;have yb:=hl.b
  have pb:=hn.1.b
  have pe:=hn.2.1
  generalize qstep (lowF n) (yq (lowF on) (r.map lowF))=q at *
  generalize yq (lowF on) (r.map lowF)=y at *
  generalize lowF n=p at *
  generalize (yv r on).1=Yn at *
  generalize (yv r on).2=Yd at *
  have hne:p.2*p.2*y.2 ≠ 0:=by
   have:=Int.mul_pos (Int.mul_pos pb pb) yb
   omega
  refine Int.eq_of_mul_eq_mul_right hne ?_
  have e1:q.1*(100000000*Yn)*(p.2*p.2*y.2)=100000000*(p.2*p.2)*q.1*(Yn*y.2):=by grind
  have e2:100000000*(p.2*p.2)*q.1*(y.1*Yd)=100000000*Yd*(q.1*(p.2*p.2*y.1)):=by grind
  have e3:100000000*Yd*(p.1*p.1*y.2*q.2)=(p.1*10000)*(p.1*10000)*(Yd*y.2*q.2):=by grind
  rw [e1,<- hr,e2,q2,e3,pe];grind
theorem f7_ind {ns:List Int}{on:Int}(ho:0 < on/\on<=80000)(hlen:ns.length<=40)(hpos:∀ n ∈ ns,0 < n/\n<=80000){k:Int->Int->Int->Option α}{Y:Option α}
  (h:∀ a b e,(e ≠ 0->e=2\/e=8)->(e=0->Low (a,b)/\a<=1000000000/\a*(yv ns on).2=(yv ns on).1*b)->k a b e=Y) :
  f7_0 α ((ns.map lowF).map rP2) (lowF on).1 (lowF on).2 k=Y:=by
 have hap:apOkC 2 16 ((ns.map lowF).map rP2) [[DC.v (.int .i64 (lowF on).1),DC.v (.int .i64 (lowF on).2)]]=true:=by
  unfold apOkC
  rw [decide_eq_true_iff]
  refine⟨allLen_map (enc:=rP2) (n:=2) (fun _=>rfl) _,rfl,Nat.succ_pos 0,?_,?_⟩
  ·simp only [List.length_map,List.length_cons,List.length_nil];omega
  ·simp only [List.length_map,List.length_cons,List.length_nil];omega
 have hall:(ns.map lowF).map rP2++[[DC.v (.int .i64 (lowF on).1),DC.v (.int .i64 (lowF on).2)]]=((ns.map lowF)++[lowF on]).map rP2:=by rw [List.map_append];rfl
 have hL:∀ p ∈ (ns.map lowF)++[lowF on],Low p:=by
  intro p hp
  rcases List.mem_append.1 hp with hp | hp
  ·obtain⟨n,hn,rfl⟩:=List.mem_map.1 hp
   exact (lowF_ok (hpos n hn).1).1
  ·rw [List.mem_singleton.1 hp];exact (lowF_ok ho.1).1
 have hlen2:((ns.map lowF)++[lowF on]).length=ns.length+1:=by simp
 simp only [f7_0,f7_0g,f16_0,f18_0,f18_0g,f19_0,f19_0g,f23_0,f23_0g]
 rw [decide_eq_false (by simp only [List.length_map];omega),cK_false,gK_of hap,hall,List.length_map,L7_0_0]
 have hf:((ns.map lowF)++[lowF on]).length < fuel:=by have:=fuel_ge;omega
 rcases R7_go (α:=α) (l:=(ns.map lowF)++[lowF on]) (k1:=fun x18=>k 0 0 x18) (k2:=fun _ _=>qK (q44 ((ns.map lowF).map rP2)) xIP fun y39=>V7_0_1 α (fun x35 x36=>k x35 x36 0) (fun x37 x38=>k 0 0 8) y39 (lowF on).1 (lowF on).2)
  (by rw [hlen2];omega) hL (fun _ _=>rfl) _ 0 fuel rfl (Nat.zero_le _) hf with ⟨e,hs⟩ | e
 ·refine e.trans ?_
  refine (qK_back (by simp only [List.length_map];omega)).trans ?_
  have hback:∀ p ∈ backY (ns.map lowF),Low p.2/\smallF p.2:=by
   intro p hp
   have hm:p.2 ∈ (ns.map lowF).reverse:=by rw [<- backY_snd];exact List.mem_map_of_mem hp
   rw [List.mem_reverse] at hm
   exact⟨hL _ (List.mem_append_left _ hm),hs _ (List.mem_append_left _ hm)⟩
  rcases V7_go (k1:=fun x35 x36=>k x35 x36 0) (k2:=fun x37 x38=>k 0 0 8) (backY (ns.map lowF)) (lowF on) hback (lowF_ok ho.1).1 (by have:=(lowF_ok ho.1).2.2;omega) with ⟨a,b,e2⟩ | ⟨e2,hf2⟩
  ·exact e2.trans (h 0 0 8 (fun _=>.inr rfl) (fun h0=>absurd h0 (by decide)))
  ·refine e2.trans ?_
   rw [fold_back]
   have hsuf:∀ t s,ns=t++s->Low (yq (lowF on) (s.map lowF))/\(yq (lowF on) (s.map lowF)).1<=1000000000:=by
    intro t s e3
    -- the last ones come first
    have hlen3:(backY (ns.map lowF)).length=ns.length:=by unfold backY;simp
    have hsp:=hf2 ((backY (ns.map lowF)).take s.length) ((backY (ns.map lowF)).drop s.length) (List.take_append_drop ..).symm
    have e4:((backY (ns.map lowF)).take s.length).foldl (fun y p=>qstep p.2 y) (lowF on)=yq (lowF on) (s.map lowF):=by
     have h5:((backY (ns.map lowF)).take s.length).foldl (fun y p=>qstep p.2 y) (lowF on)=(((backY (ns.map lowF)).take s.length).map fun p=>p.2).foldl (fun y p=>qstep p y) (lowF on):=by rw [List.foldl_map]
     rw [h5,List.map_take,backY_snd,e3,List.map_append,List.reverse_append]
     rw [List.take_left' (by simp)]
     rw [List.foldl_reverse]
     rfl
    rw [e4] at hsp
    exact hsp
   refine h _ _ 0 (fun h0=>absurd rfl h0) (fun _=>?_)
   obtain⟨l1,l2⟩:=hsuf [] ns rfl
   refine⟨l1,l2,yq_val ho.1 ns (fun n hn=>(hpos n hn).1) (fun n hn=>?_) hsuf⟩
   exact hs _ (List.mem_append_left _ (List.mem_map_of_mem hn))
 ·exact e.trans (h 0 0 2 (fun _=>.inl rfl) (fun h0=>absurd h0 (by decide)))
theorem f8_ind {p y:Int × Int}(hp:Low p)(hp1:p.1<=80000)(hp2:p.2<=10000)(hy:Low y)(hy1:y.1<=1000000000){k:Int->Int->Int->Option α}{Y:Option α}
  (h:∀ a b e,(e ≠ 0->e=2\/e=8)->(e=0->(0<=a/\a<=1000000000)/\(1<=b/\b<=1000000000)/\a*((p.1*y.2+y.1*p.2)*(p.1*y.2+y.1*p.2))=(p.1*y.2 - y.1*p.2)*(p.1*y.2 - y.1*p.2)*b)->k a b e=Y) :
  f8_0 α p.1 p.2 y.1 y.2 k=Y:=by
 have pa:=hp.a;have pb:=hp.b;have ya:=hy.a;have yb:=hy.b;have yc:=hy.c
 simp only [f8_0,f8_0g,f18_0,f18_0g,f23_0,f23_0g,J8_0_0,J8_0_0g,J8_0_1,J8_0_1g]
 rw [f24_eq pb (by omega) hp.g,Bool.not_true,cK_false,f24_eq yb (by omega) hy.g,Bool.not_true,cK_false,decide_eq_false (by omega),cK_false,f22_eq (by decide) (by decide)]
 by_cases c:p.1<=100/\p.2<=100
 ·rw [decide_eq_true (show (-100<=p.1/\p.1<=100)/\p.2<=100 by omega),Bool.not_true,cK_false,decide_eq_false (by omega),cK_false,f22_eq (by decide) (by decide),decide_eq_true (show (-1000000000<=y.1/\y.1<=1000000000)/\y.2<=1000000000 by omega),Bool.not_true,cK_false]
  have b1:=mulB (x:=p.1) (y:=y.2) (A:=100) (B:=1000000000) (by omega) c.1 (by omega) yc
  have b2:=mulB (x:=y.1) (y:=p.2) (A:=1000000000) (B:=100) (by omega) hy1 (by omega) c.2
  have d1:=Int.mul_pos pa yb
  have d2:=Int.mul_pos ya pb
  rw [w64_in (n:=p.1*y.2) (by omega) (by omega),w64_in (n:=y.1*p.2) (by omega) (by omega),w64_in (n:=p.1*y.2 - y.1*p.2) (by omega) (by omega),w64_in (n:=p.1*y.2+y.1*p.2) (by omega) (by omega),f25_eq (by omega) (by omega) (by omega) (by omega)]
  obtain⟨o1,o2,o3,o4,o5,o6⟩:=ovr_ok (n:=p.1*y.2 - y.1*p.2) (d:=p.1*y.2+y.1*p.2) (by omega)
  generalize ovr (p.1*y.2 - y.1*p.2) (p.1*y.2+y.1*p.2)=r at *
  generalize p.1*y.2 - y.1*p.2=P at *
  generalize p.1*y.2+y.1*p.2=D at *
  refine (Br.f26_eq (n:=1000000000) (by decide)).trans ?_
  rw [show isq 1000000000=31622 by decide +kernel]
  show f22_0 α r.1 r.2 31622 _=_
  rw [f22_eq (by decide) (by decide)]
  by_cases c2:(-31622<=r.1/\r.1<=31622)/\r.2<=31622
  ·rw [decide_eq_true c2,Bool.not_true,cK_false]
   simp only [f20_0,f20_0g]
   have s1:=mul_bd (a:=r.1) (b:=r.1) (A:=31622) (B:=31622) c2.1.1 c2.1.2 c2.1.1 c2.1.2
   have s0:=sq_nn r.1
   have s2:=mulB (x:=r.2) (y:=r.2) (A:=31622) (B:=31622) (by omega) c2.2 (by omega) c2.2
   have s3:=Int.mul_pos o1 o1
   rw [w64_in (n:=r.1*r.1) (by omega) (by omega),w64_in (n:=r.2*r.2) (by omega) (by omega),f25_eq (by omega) (by omega) s3 (by omega)]
   obtain⟨u1,u2,u3,u4,u5,u6⟩:=ovr_ok (n:=r.1*r.1) (d:=r.2*r.2) s3
   have u7:=u5 s0
   refine h _ _ 0 (fun h0=>absurd rfl h0) (fun _=>⟨by omega,by omega,?_⟩)
   generalize ovr (r.1*r.1) (r.2*r.2)=v at *
   refine Int.eq_of_mul_eq_mul_right (show r.2*r.2 ≠ 0 by omega) ?_
   have e1:v.1*(D*D)*(r.2*r.2)=v.1*(r.2*r.2)*(D*D):=by grind
   have e2:r.1*r.1*v.2*(D*D)=(r.1*D)*(r.1*D)*v.2:=by grind
   rw [e1,u2,e2,o2];grind
  ·rw [decide_eq_false c2,Bool.not_false,cK_true]
   exact h 0 0 8 (fun _=>.inr rfl) (fun h0=>absurd h0 (by decide))
 ·rw [decide_eq_false (show ¬ ((-100<=p.1/\p.1<=100)/\p.2<=100) by omega),Bool.not_false,cK_true,cK_true]
  exact h 0 0 2 (fun _=>.inl rfl) (fun h0=>absurd h0 (by decide))
def sgnI (x:Int):Int:=if x < 0 then -1 else if 0 < x then 1 else 0
theorem R11_go {k1:Int->Option α}:∀ (j f:Nat) (n d m k:Int),0 < d->0 < k->0<=n->0<=m->n<=4000000000000000->m<=4000000000000000->d<=4000000000000000->k<=4000000000000000->d+k<=(j:Int)->j < f ->
  R11_0_1 α k1 f n d m k=k1 (sgnI (n*k - m*d)):=by
 intro j
 induction j with
 | zero=>intro f n d m k h1 h2 _ _ _ _ _ _ h;omega
 | succ j ih=>
  intro f n d m k h1 h2 h3 h4 h5 h6 h7 h8 h9 hf
  obtain⟨f,rfl⟩:∃ f',f=f'+1:=⟨f - 1,by omega⟩
  rw [R11_0_1]
  simp only [S11_0_1,S11_0_1g,J11_0_0,J11_0_0g]
  rw [f10_eq h1 (by omega) (by omega) (by omega),f10_eq h2 (by omega) (by omega) (by omega)]
  have a1:=Int.emod_add_mul_ediv n d
  have a2:=Int.emod_nonneg n (show d ≠ 0 by omega)
  have a3:=Int.emod_lt_of_pos n h1
  have b1:=Int.emod_add_mul_ediv m k
  have b2:=Int.emod_nonneg m (show k ≠ 0 by omega)
  have b3:=Int.emod_lt_of_pos m h2
  have p0:0<=n / d:=Int.ediv_nonneg h3 (by omega)
  have q0:0<=m / k:=Int.ediv_nonneg h4 (by omega)
  generalize n / d=p at *
  generalize m / k=q at *
  generalize n % d=x at *
  generalize m % k=y at *
  have e0:n*k - m*d=d*k*(p - q)+(x*k - y*d):=by rw [<- a1,<- b1];grind
  have dk:=Int.mul_pos h1 h2
  have xk:0<=x*k/\x*k<=d*k - k:=⟨Int.mul_nonneg a2 (by omega),by
   have:=Int.mul_le_mul_of_nonneg_right (show x<=d - 1 by omega) (Int.le_of_lt h2)
   rw [Int.sub_mul,Int.one_mul] at this;exact this⟩
  have yd:0<=y*d/\y*d<=d*k - d:=⟨Int.mul_nonneg b2 (by omega),by
   have:=Int.mul_le_mul_of_nonneg_right (show y<=k - 1 by omega) (Int.le_of_lt h1)
   rw [Int.sub_mul,Int.one_mul,Int.mul_comm k d] at this;exact this⟩
  rw [cK_dec]
  by_cases c1:p < q
  ·rw [if_pos c1,e0]
   have:=Int.mul_le_mul_of_nonneg_left (show p - q<=-1 by omega) (Int.le_of_lt dk)
   unfold sgnI
   rw [if_pos (by omega)]
  ·rw [if_neg c1,cK_dec]
   by_cases c2:q < p
   ·rw [if_pos c2,e0]
    have:=Int.mul_le_mul_of_nonneg_left (show 1<=p - q by omega) (Int.le_of_lt dk)
    unfold sgnI
    rw [if_neg (by omega),if_pos (by omega)]
   ·rw [if_neg c2]
    obtain rfl:p=q:=by omega
    have e1:n*k - m*d=x*k - y*d:=by rw [e0,Int.sub_self,Int.mul_zero,Int.zero_add]
    have f1:n - w64 (p*d)=x:=by
     have:p*d=d*p:=Int.mul_comm ..
     rw [this,w64_in (n:=d*p) (by omega) (by omega)];omega
    have f2:m - w64 (p*k)=y:=by
     have:p*k=k*p:=Int.mul_comm ..
     rw [this,w64_in (n:=k*p) (by omega) (by omega)];omega
    rw [f1,f2,w64_in (n:=x) (by omega) (by omega),w64_in (n:=y) (by omega) (by omega),e1]
    by_cases cx:x=0
    ·by_cases cy:y=0
     ·rw [cx,cy,show ((0:Int) == 0)=true from rfl,cK_true,cK_true,Int.zero_mul,Int.zero_mul];rfl
     ·rw [cx,show ((0:Int) == 0)=true from rfl,cK_true,cK_true,beq_eq_false_iff_ne.2 cy,cK_false]
      have:=Int.mul_pos (show 0 < y by omega) h1
      unfold sgnI
      rw [if_pos (by rw [Int.zero_mul];omega)]
    ·rw [beq_eq_false_iff_ne.2 cx,cK_false,cK_false]
     by_cases cy:y=0
     ·rw [cy,show ((0:Int) == 0)=true from rfl,cK_true]
      have:=Int.mul_pos (show 0 < x by omega) h2
      unfold sgnI
      rw [if_neg (by rw [Int.zero_mul];omega),if_pos (by rw [Int.zero_mul];omega)]
     ·rw [beq_eq_false_iff_ne.2 cy,cK_false]
      have:=ih f k y d x (by omega) (by omega) (by omega) (by omega) (by omega) (by omega) (by omega) (by omega) (by omega) (by omega)
      rw [show x*k - y*d=k*x - d*y by rw [Int.mul_comm x k,Int.mul_comm y d]]
      exact this
theorem f11_eq' {n d m k:Int}(h1:0 < d)(h2:0 < k)(h3:0<=n)(h4:0<=m)(h5:n<=4000000000000000)(h6:m<=4000000000000000)(h7:d<=4000000000)(h8:k<=4000000000){K:Int->Option α}:f11_0 α n d m k K=K (sgnI (n*k - m*d)):=by
 simp only [f11_0,f11_0g,L11_0_1]
 exact R11_go (d+k).toNat fuel n d m k h1 h2 h3 h4 h5 h6 (by omega) (by omega) (by omega) (by have:=fuel_ge;omega)
end Go.AM.K
