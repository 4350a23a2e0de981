/- Bands: right demands and tasks, the share and the answer of a demand. -/
import Derived.Test.YtmcplmhohldpjaaGreatYWj
namespace Go.AM.K
set_option linter.unusedVariables false
set_option linter.unusedSimpArgs false
variable {α:Type}
structure Dm where
 sh:Int
 pol:Int
 ix:Int
 s1:Int
 s2:Int
 w1:Int
 w2:Int
 lo:Int
 hi:Int
abbrev rD (d:Dm):List DC:=[.v (.int .i64 d.sh),.v (.int .i64 d.pol),.v (.int .i64 d.ix),.v (.int .i64 d.s1),.v (.int .i64 d.s2),.v (.int .i64 d.w1),.v (.int .i64 d.w2),.v (.int .i64 d.lo),.v (.int .i64 d.hi)]
theorem row_D {ds:List Dm}{i:Nat}{d:Dm}(h:ds[i]?=some d){f:Int->Int->Int->Int->Int->Int->Int->Int->Int->Option α} :
  rowK (ds.map rD) (i:Int) [.int .i64,.int .i64,.int .i64,.int .i64,.int .i64,.int .i64,.int .i64,.int .i64,.int .i64] f=f d.sh d.pol d.ix d.s1 d.s2 d.w1 d.w2 d.lo d.hi:=by
 refine (rowK_get (r:=rD d) ?_).trans rfl
 rw [List.getElem?_map,h];rfl
theorem f94_eq {n lo hi:Int}{k:Bool->Option α}:f94_0 α n lo hi k=k (decide (lo<=n/\n<=hi)):=by
 simp only [f94_0,sld_eq,f94_0g]
 by_cases h:lo<=n
 ·rw [decide_eq_true h,cK_true]
  by_cases h2:n<=hi
  ·rw [decide_eq_true h2,decide_eq_true ⟨h,h2⟩]
  ·rw [decide_eq_false h2,decide_eq_false (fun q=>h2 q.2)]
 ·rw [decide_eq_false h,cK_false,decide_eq_false (fun q=>h q.1)]
theorem and_k {p q:Prop}[Decidable p][Decidable q]{k:Bool->Option α}:cK (decide p) (k (decide q)) (k false)=k (decide (p/\q)):=by
 by_cases h:p
 ·rw [decide_eq_true h,cK_true]
  by_cases h2:q
  ·rw [decide_eq_true h2,decide_eq_true ⟨h,h2⟩]
  ·rw [decide_eq_false h2,decide_eq_false (fun q=>h2 q.2)]
 ·rw [decide_eq_false h,cK_false,decide_eq_false (fun q=>h q.1)]
theorem nand_k {p q:Prop}[Decidable p][Decidable q]{k:Bool->Option α}:cK (!decide p) (k true) (k (!decide q))=k (!decide (p/\q)):=by
 by_cases h:p
 ·rw [decide_eq_true h,Bool.not_true,cK_false]
  by_cases h2:q
  ·rw [decide_eq_true h2,decide_eq_true ⟨h,h2⟩]
  ·rw [decide_eq_false h2,decide_eq_false (fun q=>h2 q.2)]
 ·rw [decide_eq_false h,Bool.not_false,cK_true,decide_eq_false (fun q=>h q.1),Bool.not_false]
theorem f159_eq {a b lo hi:Int}{k:Bool->Option α}:f159_0 α a b lo hi k=k (decide ((lo<=a/\a<=hi)/\lo<=b/\b<=hi)):=by
 simp only [f159_0,sld_eq,f159_0g,f94_eq,and_k]
theorem f158_eq {a b:Int}{k:Bool->Option α}:f158_0 α a b k=k (decide ((0<=a/\a<=2)/\0<=b/\b<=1)):=by
 simp only [f158_0,sld_eq,f158_0g,f94_eq,and_k]
theorem J114_0_eq {a b c:Int}{k:Bool->Option α}:J114_0_0 α a b c k=k (!decide ((5000<=a/\a<=80000)/\(0<=b/\b<=9999)/\0<=c/\c<=9999)):=by
 simp only [J114_0_0,sld_eq,J114_0_0g,f94_eq,f159_eq,nand_k]
theorem J114_1_eq {a b:Int}{k:Bool->Option α}:J114_0_1 α a b k=k (!decide ((0<=a/\a<=10000)/\0<=b/\b<=10000)):=by
 simp only [J114_0_1,sld_eq,J114_0_1g,f94_eq,nand_k]
def ckD (d:Dm):Int:=
 if (0<=d.sh/\d.sh<=2)/\0<=d.pol/\d.pol<=1 then
  if (5000<=d.ix/\d.ix<=80000)/\(0<=d.s1/\d.s1<=9999)/\0<=d.s2/\d.s2<=9999 then
   if d.s2 < d.s1 then 10 else
   if (1000<=d.w1/\d.w1<=200000)/\1000<=d.w2/\d.w2<=200000 then
    if d.w2 < d.w1 then 10 else
    if (0<=d.lo/\d.lo<=10000)/\0<=d.hi/\d.hi<=10000 then (if d.hi < d.lo then 24 else 0) else 2
   else 2
  else 2
 else 11
theorem f114_eq (d:Dm){k:Int->Option α}:f114_0 α d.sh d.pol d.ix d.s1 d.s2 d.w1 d.w2 d.lo d.hi k=k (ckD d):=by
 simp only [f114_0,sld_eq,f114_0g,f158_eq,J114_0_eq,J114_1_eq,f159_eq,cK_nd,cK_dec]
 unfold ckD
 by_cases c1:(0<=d.sh/\d.sh<=2)/\0<=d.pol/\d.pol<=1
 ·rw [if_pos c1,if_pos c1]
  by_cases c2:(5000<=d.ix/\d.ix<=80000)/\(0<=d.s1/\d.s1<=9999)/\0<=d.s2/\d.s2<=9999
  ·rw [if_pos c2,if_pos c2]
   by_cases c3:d.s2 < d.s1
   ·rw [if_pos c3,if_pos c3]
   ·rw [if_neg c3,if_neg c3]
    by_cases c4:(1000<=d.w1/\d.w1<=200000)/\1000<=d.w2/\d.w2<=200000
    ·rw [if_pos c4,if_pos c4]
     by_cases c5:d.w2 < d.w1
     ·rw [if_pos c5,if_pos c5]
     ·rw [if_neg c5,if_neg c5]
      by_cases c6:(0<=d.lo/\d.lo<=10000)/\0<=d.hi/\d.hi<=10000
      ·rw [if_pos c6,if_pos c6]
       by_cases c7:d.hi < d.lo
       ·rw [if_pos c7,if_pos c7]
       ·rw [if_neg c7,if_neg c7]
      ·rw [if_neg c6,if_neg c6]
    ·rw [if_neg c4,if_neg c4]
  ·rw [if_neg c2,if_neg c2]
 ·rw [if_neg c1,if_neg c1]
theorem ckD_ok {d:Dm}(h:ckD d=0):((0<=d.sh/\d.sh<=2)/\0<=d.pol/\d.pol<=1)/\((5000<=d.ix/\d.ix<=80000)/\(0<=d.s1/\d.s1<=9999)/\0<=d.s2/\d.s2<=9999)/\¬ d.s2 < d.s1 /\
  ((1000<=d.w1/\d.w1<=200000)/\1000<=d.w2/\d.w2<=200000)/\¬ d.w2 < d.w1/\((0<=d.lo/\d.lo<=10000)/\0<=d.hi/\d.hi<=10000)/\¬ d.hi < d.lo:=by
 unfold ckD at h
 by_cases c1:(0<=d.sh/\d.sh<=2)/\0<=d.pol/\d.pol<=1
 ·rw [if_pos c1] at h
  by_cases c2:(5000<=d.ix/\d.ix<=80000)/\(0<=d.s1/\d.s1<=9999)/\0<=d.s2/\d.s2<=9999
  ·rw [if_pos c2] at h
   by_cases c3:d.s2 < d.s1
   ·rw [if_pos c3] at h;cases h
   ·rw [if_neg c3] at h
    by_cases c4:(1000<=d.w1/\d.w1<=200000)/\1000<=d.w2/\d.w2<=200000
    ·rw [if_pos c4] at h
     by_cases c5:d.w2 < d.w1
     ·rw [if_pos c5] at h;cases h
     ·rw [if_neg c5] at h
      by_cases c6:(0<=d.lo/\d.lo<=10000)/\0<=d.hi/\d.hi<=10000
      ·rw [if_pos c6] at h
       by_cases c7:d.hi < d.lo
       ·rw [if_pos c7] at h;cases h
       ·exact⟨c1,c2,c3,c4,c5,c6,c7⟩
      ·rw [if_neg c6] at h;cases h
    ·rw [if_neg c4] at h;cases h
  ·rw [if_neg c2] at h;cases h
 ·rw [if_neg c1] at h;cases h
def dsE:List Dm->Int
 | []=>0
 | d::ds=>if ckD d=0 then dsE ds else ckD d
theorem R69_go {ds:List Dm}(hA:ds.length<=8){k1:Int->Int->Option α}{k2:Int->Bool->Option α}{Y:Option α}{K:Int->Option α}(h1:∀ x e,k1 x e=K e)(h2:∀ x b,k2 x b=Y) :
  ∀ (rest:List Dm) (i n:Nat),ds.drop i=rest->i<=ds.length->rest.length < n ->
  R69_0_0 α (ds.map rD) (ds.length:Int) k1 k2 n (i:Int)=if dsE rest=0 then Y else K (dsE rest):=by
 intro rest
 induction rest with
 | nil=>
  intro i n hd hi hn
  obtain⟨n,rfl⟩:∃ n',n=n'+1:=⟨n - 1,by simp only [List.length_nil] at hn;omega⟩
  have hl:ds.length<=i:=List.drop_eq_nil_iff.1 hd
  rw [R69_0_0]
  simp only [S69_0_0]
  rw [decide_eq_false (by omega),cK_false,h2]
  rfl
 | cons d rs ih=>
  intro i n hd hi hn
  obtain⟨n,rfl⟩:∃ n',n=n'+1:=⟨n - 1,by omega⟩
  have hl:i < ds.length:=by
   by_cases h:i < ds.length
   ·exact h
   ·rw [List.drop_eq_nil_of_le (by omega)] at hd;cases hd
  have hg:ds[i]?=some d:=by
   have:=congrArg List.head? hd
   rw [List.head?_drop] at this
   exact this
  have hd':ds.drop (i+1)=rs:=by
   have:=congrArg List.tail hd
   rw [List.tail_drop] at this
   exact this
  have hw:w64 ((i:Int)+1)=((i+1:Nat):Int):=by rw [w64_in (by omega) (by omega)];omega
  have hn':rs.length < n:=by simp only [List.length_cons] at hn;omega
  rw [R69_0_0]
  simp only [S69_0_0]
  rw [decide_eq_true (by omega),cK_true,row_D hg,f114_eq,cK_bne,h1,hw,ih (i+1) n hd' (by omega) hn']
  show _=if (if ckD d=0 then dsE rs else ckD d)=0 then Y else K (if ckD d=0 then dsE rs else ckD d)
  by_cases c:ckD d=0
  ·rw [if_pos c,if_pos c]
  ·rw [if_neg c,if_neg c,if_neg c]
def dms (ds:List Dm):Int:=if ds.length=0 then 12 else if 8 < ds.length then 8 else dsE ds
theorem f69_eq {ds:List Dm}{k:Int->Option α}:f69_0 α (ds.map rD) (fun _ e=>k e)=k (dms ds):=by
 simp only [f69_0,sld_eq,f69_0g,List.length_map,cK_beq,cK_dec]
 unfold dms
 by_cases c1:ds.length=0
 ·rw [if_pos (by omega),if_pos c1]
 ·rw [if_neg (by omega),if_neg c1]
  by_cases c2:8 < ds.length
  ·rw [if_pos (by omega),if_pos c2]
  ·rw [if_neg (by omega),if_neg c2,L69_0_0,sld_eq,L69_0_0g]
   have hf:ds.length < fuel:=by have:=fuel_ge;omega
   refine (R69_go (K:=k) (by omega) (fun _ _=>rfl) (fun _ _=>rfl) ds 0 fuel rfl (Nat.zero_le _) hf).trans ?_
   by_cases c:dsE ds=0
   ·rw [if_pos c,c]
   ·rw [if_neg c]
def askD (d:Dm)(ls:List L5)(oi ol:Int):Ask:=⟨d.ix,d.s1,d.s2,d.pol,d.w1,d.w2,ls,oi,ol⟩
theorem f29_eq {d:Dm}{ds:List Dm}{ls:List L5}{oi ol:Int}{k:Int->Option α} :
  f29_0 α ((d::ds).map rD) (ls.map rL) oi ol (fun _ e=>k e)=k (if dms (d::ds)=0 then ckA (askD d ls oi ol) else dms (d::ds)):=by
 simp only [f29_0,sld_eq,f29_0g]
 refine (f69_eq (k:=fun e=>_)).trans ?_
 rw [cK_bne]
 by_cases c:dms (d::ds)=0
 ·rw [if_pos c,if_pos c]
  refine (row_D (i:=0) (d:=d) rfl).trans ?_
  refine (row_D (i:=0) (d:=d) rfl).trans ?_
  rw [f72_0,sld_eq,f72_0g,f71_0,sld_eq,f71_0g]
  exact f70_eq (askD d ls oi ol)
 ·rw [if_neg c,if_neg c]
def tskE (d:Dm)(ds:List Dm)(ls:List L5)(oi ol:Int):Int:=if dms (d::ds)=0 then ckA (askD d ls oi ol) else dms (d::ds)
def selE (s:Int)(q:Q6):Int × Int:=if s=2 then (q.2.2.2.2.1,q.2.2.2.2.2) else if s=1 then (q.2.2.1,q.2.2.2.1) else (q.1,q.2.1)
def dshE (d:Dm)(ls:List L5)(oi ol:Int):(Int × Int) × Int:=
 if (sharesE (askD d ls oi ol)).2=0 then (selE d.sh (sharesE (askD d ls oi ol)).1,0) else ((0,0),(sharesE (askD d ls oi ol)).2)
theorem f160_eq {d:Dm}(hs:0<=d.sh/\d.sh<=2){ls:List L5}{oi ol:Int}{k:Int->Int->Int->Option α} :
  f160_0 α (ls.map rL) oi ol d.sh d.pol d.ix d.w1 d.w2 d.s1 d.s2 k=k (dshE d ls oi ol).1.1 (dshE d ls oi ol).1.2 (dshE d ls oi ol).2:=by
 simp only [f160_0,sld_eq,f160_0g,f71_0,sld_eq,f71_0g]
 refine (f12_bn (askD d ls oi ol)).trans ?_
 unfold KS dshE selE
 generalize sharesE (askD d ls oi ol)=q
 show cK (q.2 != 0) (k 0 0 q.2) (cK (d.sh == 2) (k q.1.2.2.2.2.1 q.1.2.2.2.2.2 0) (cK (d.sh == 1) (k q.1.2.2.1 q.1.2.2.2.1 0) (cK (d.sh == 0) (k q.1.1 q.1.2.1 0) none)))=_
 rw [cK_bne]
 by_cases c:q.2=0
 ·simp only [if_pos c]
  by_cases c2:d.sh=2
  ·simp only [if_pos c2]
   rw [beq_iff_eq.2 c2,cK_true]
  ·simp only [if_neg c2]
   rw [beq_eq_false_iff_ne.2 c2,cK_false]
   by_cases c1:d.sh=1
   ·simp only [if_pos c1]
    rw [beq_iff_eq.2 c1,cK_true]
   ·simp only [if_neg c1]
    rw [beq_eq_false_iff_ne.2 c1,cK_false,beq_iff_eq.2 (show d.sh=0 by omega),cK_true]
 ·simp only [if_neg c]
end Go.AM.K
