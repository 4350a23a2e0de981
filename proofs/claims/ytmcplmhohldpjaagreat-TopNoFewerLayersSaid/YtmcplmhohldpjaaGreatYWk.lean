/- Bands: right demands and tasks, the share and the answer of a demand. -/
import Derived.Test.YtmcplmhohldpjaaGreatYWj
namespace Go.AM.K
set_option linter.unusedVariables false
set_option linter.unusedSimpArgs false
variable {α:Type}
structure Dm where
 sh:Int
 pol:Int
 ix:Int
 s1:Int
 s2:Int
 w1:Int
 w2:Int
 lo:Int
 hi:Int
abbrev rD (d:Dm):List DC:=[.v (.int .i64 d.sh),.v (.int .i64 d.pol),.v (.int .i64 d.ix),.v (.int .i64 d.s1),.v (.int .i64 d.s2),.v (.int .i64 d.w1),.v (.int .i64 d.w2),.v (.int .i64 d.lo),.v (.int .i64 d.hi)]
theorem BK {ds:List Dm}{i:Nat}{d:Dm}(h:ds[i]?=some d){f:Int->Int->Int->Int->Int->Int->Int->Int->Int->Option α} :
  gI (ds.map rD) (i:Int) [.int .i64,.int .i64,.int .i64,.int .i64,.int .i64,.int .i64,.int .i64,.int .i64,.int .i64] f=f d.sh d.pol d.ix d.s1 d.s2 d.w1 d.w2 d.lo d.hi:=by
 refine (sw (r:=rD d) ?_).trans rfl
 rw [List.getElem?_map,h];rfl
theorem yX {n lo hi:Int}{k:Bool->Option α}:lX α n lo hi k=k (decide (lo<=n/\n<=hi)):=by
 simp only [lX,af,Zb]
 by_cases h:lo<=n
 ·rw [decide_eq_true h,aq]
  by_cases h2:n<=hi
  ·rw [decide_eq_true h2,decide_eq_true ⟨h,h2⟩]
  ·rw [decide_eq_false h2,decide_eq_false (fun q=>h2 q.2)]
 ·rw [decide_eq_false h,ap,decide_eq_false (fun q=>h q.1)]
theorem Cl {p q:Prop}[Decidable p][Decidable q]{k:Bool->Option α}:cK (decide p) (k (decide q)) (k false)=k (decide (p/\q)):=by
 by_cases h:p
 ·rw [decide_eq_true h,aq]
  by_cases h2:q
  ·rw [decide_eq_true h2,decide_eq_true ⟨h,h2⟩]
  ·rw [decide_eq_false h2,decide_eq_false (fun q=>h2 q.2)]
 ·rw [decide_eq_false h,ap,decide_eq_false (fun q=>h q.1)]
theorem Zv {p q:Prop}[Decidable p][Decidable q]{k:Bool->Option α}:cK (!decide p) (k true) (k (!decide q))=k (!decide (p/\q)):=by
 by_cases h:p
 ·rw [decide_eq_true h,Bool.not_true,ap]
  by_cases h2:q
  ·rw [decide_eq_true h2,decide_eq_true ⟨h,h2⟩]
  ·rw [decide_eq_false h2,decide_eq_false (fun q=>h2 q.2)]
 ·rw [decide_eq_false h,Bool.not_false,aq,decide_eq_false (fun q=>h q.1),Bool.not_false]
theorem O8 {a b lo hi:Int}{k:Bool->Option α}:uw α a b lo hi k=k (decide ((lo<=a/\a<=hi)/\lo<=b/\b<=hi)):=by
 simp only [uw,af,Pb,yX,Cl]
theorem agS {a b:Int}{k:Bool->Option α}:yU α a b k=k (decide ((0<=a/\a<=2)/\0<=b/\b<=1)):=by
 simp only [yU,af,OY,yX,Cl]
theorem RR {a b c:Int}{k:Bool->Option α}:mU α a b c k=k (!decide ((5000<=a/\a<=80000)/\(0<=b/\b<=9999)/\0<=c/\c<=9999)):=by
 simp only [mU,af,Dx,yX,O8,Zv]
theorem RE {a b:Int}{k:Bool->Option α}:m9 α a b k=k (!decide ((0<=a/\a<=10000)/\0<=b/\b<=10000)):=by
 simp only [m9,af,CQ,yX,Zv]
def ckD (d:Dm):Int:=
 if (0<=d.sh/\d.sh<=2)/\0<=d.pol/\d.pol<=1 then
  if (5000<=d.ix/\d.ix<=80000)/\(0<=d.s1/\d.s1<=9999)/\0<=d.s2/\d.s2<=9999 then
   if d.s2 < d.s1 then 10 else
   if (1000<=d.w1/\d.w1<=200000)/\1000<=d.w2/\d.w2<=200000 then
    if d.w2 < d.w1 then 10 else
    if (0<=d.lo/\d.lo<=10000)/\0<=d.hi/\d.hi<=10000 then (if d.hi < d.lo then 24 else 0) else 2
   else 2
  else 2
 else 11
theorem afB (d:Dm){k:Int->Option α}:yE α d.sh d.pol d.ix d.s1 d.s2 d.w1 d.w2 d.lo d.hi k=k (ckD d):=by
 simp only [yE,af,OW,agS,RR,RE,O8,ra,bi]
 unfold ckD
 by_cases c1:(0<=d.sh/\d.sh<=2)/\0<=d.pol/\d.pol<=1
 ·rw [if_pos c1,if_pos c1]
  by_cases c2:(5000<=d.ix/\d.ix<=80000)/\(0<=d.s1/\d.s1<=9999)/\0<=d.s2/\d.s2<=9999
  ·rw [if_pos c2,if_pos c2]
   by_cases c3:d.s2 < d.s1
   ·rw [if_pos c3,if_pos c3]
   ·rw [if_neg c3,if_neg c3]
    by_cases c4:(1000<=d.w1/\d.w1<=200000)/\1000<=d.w2/\d.w2<=200000
    ·rw [if_pos c4,if_pos c4]
     by_cases c5:d.w2 < d.w1
     ·rw [if_pos c5,if_pos c5]
     ·rw [if_neg c5,if_neg c5]
      by_cases c6:(0<=d.lo/\d.lo<=10000)/\0<=d.hi/\d.hi<=10000
      ·rw [if_pos c6,if_pos c6]
       by_cases c7:d.hi < d.lo
       ·rw [if_pos c7,if_pos c7]
       ·rw [if_neg c7,if_neg c7]
      ·rw [if_neg c6,if_neg c6]
    ·rw [if_neg c4,if_neg c4]
  ·rw [if_neg c2,if_neg c2]
 ·rw [if_neg c1,if_neg c1]
theorem Uw {d:Dm}(h:ckD d=0):((0<=d.sh/\d.sh<=2)/\0<=d.pol/\d.pol<=1)/\((5000<=d.ix/\d.ix<=80000)/\(0<=d.s1/\d.s1<=9999)/\0<=d.s2/\d.s2<=9999)/\¬ d.s2 < d.s1 /\
  ((1000<=d.w1/\d.w1<=200000)/\1000<=d.w2/\d.w2<=200000)/\¬ d.w2 < d.w1/\((0<=d.lo/\d.lo<=10000)/\0<=d.hi/\d.hi<=10000)/\¬ d.hi < d.lo:=by
 unfold ckD at h
 by_cases c1:(0<=d.sh/\d.sh<=2)/\0<=d.pol/\d.pol<=1
 ·rw [if_pos c1] at h
  by_cases c2:(5000<=d.ix/\d.ix<=80000)/\(0<=d.s1/\d.s1<=9999)/\0<=d.s2/\d.s2<=9999
  ·rw [if_pos c2] at h
   by_cases c3:d.s2 < d.s1
   ·rw [if_pos c3] at h;cases h
   ·rw [if_neg c3] at h
    by_cases c4:(1000<=d.w1/\d.w1<=200000)/\1000<=d.w2/\d.w2<=200000
    ·rw [if_pos c4] at h
     by_cases c5:d.w2 < d.w1
     ·rw [if_pos c5] at h;cases h
     ·rw [if_neg c5] at h
      by_cases c6:(0<=d.lo/\d.lo<=10000)/\0<=d.hi/\d.hi<=10000
      ·rw [if_pos c6] at h
       by_cases c7:d.hi < d.lo
       ·rw [if_pos c7] at h;cases h
       ·exact⟨c1,c2,c3,c4,c5,c6,c7⟩
      ·rw [if_neg c6] at h;cases h
    ·rw [if_neg c4] at h;cases h
  ·rw [if_neg c2] at h;cases h
 ·rw [if_neg c1] at h;cases h
def dsE:List Dm->Int
 | []=>0
 | d::ds=>if ckD d=0 then dsE ds else ckD d
theorem aiX {ds:List Dm}(hA:ds.length<=8){k1:Int->Int->Option α}{k2:Int->Bool->Option α}{Y:Option α}{K:Int->Option α}(h1:∀ x e,k1 x e=K e)(h2:∀ x b,k2 x b=Y) :
  ∀ (rest:List Dm) (i n:Nat),ds.drop i=rest->i<=ds.length->rest.length < n ->
  oF α (ds.map rD) (ds.length:Int) k1 k2 n (i:Int)=if dsE rest=0 then Y else K (dsE rest):=by
 intro rest
 induction rest with
 | nil=>
  intro i n hd hi hn
  obtain⟨n,rfl⟩:∃ n',n=n'+1:=⟨n - 1,by simp only [List.length_nil] at hn;omega⟩
  have hl:ds.length<=i:=List.drop_eq_nil_iff.1 hd
  rw [oF]
  simp only [qT]
  rw [decide_eq_false (by omega),ap,h2]
  rfl
 | cons d rs ih=>
  intro i n hd hi hn
  obtain⟨n,rfl⟩:∃ n',n=n'+1:=⟨n - 1,by omega⟩
  have hl:i < ds.length:=by
   by_cases h:i < ds.length
   ·exact h
   ·rw [List.drop_eq_nil_of_le (by omega)] at hd;cases hd
  have hg:ds[i]?=some d:=by
   have:=congrArg List.head? hd
   rw [List.head?_drop] at this
   exact this
  have hd':ds.drop (i+1)=rs:=by
   have:=congrArg List.tail hd
   rw [List.tail_drop] at this
   exact this
  have hw:w64 ((i:Int)+1)=((i+1:Nat):Int):=by rw [ak (by omega) (by omega)];omega
  have hn':rs.length < n:=by simp only [List.length_cons] at hn;omega
  rw [oF]
  simp only [qT]
  rw [decide_eq_true (by omega),aq,BK hg,afB,eE,h1,hw,ih (i+1) n hd' (by omega) hn']
  show _=if (if ckD d=0 then dsE rs else ckD d)=0 then Y else K (if ckD d=0 then dsE rs else ckD d)
  by_cases c:ckD d=0
  ·rw [if_pos c,if_pos c]
  ·rw [if_neg c,if_neg c,if_neg c]
def dms (ds:List Dm):Int:=if ds.length=0 then 12 else if 8 < ds.length then 8 else dsE ds
theorem ai3 {ds:List Dm}{k:Int->Option α}:CT α (ds.map rD) (fun _ e=>k e)=k (dms ds):=by
 simp only [CT,af,JW,List.length_map,nq,bi]
 unfold dms
 by_cases c1:ds.length=0
 ·rw [if_pos (by omega),if_pos c1]
 ·rw [if_neg (by omega),if_neg c1]
  by_cases c2:8 < ds.length
  ·rw [if_pos (by omega),if_pos c2]
  ·rw [if_neg (by omega),if_neg c2,wZ,af,Iq]
   have hf:ds.length < aN:=by have:=cB;omega
   refine (aiX (K:=k) (by omega) (fun _ _=>rfl) (fun _ _=>rfl) ds 0 aN rfl (Nat.zero_le _) hf).trans ?_
   by_cases c:dsE ds=0
   ·rw [if_pos c,c]
   ·rw [if_neg c]
def py (d:Dm)(ls:List L5)(oi ol:Int):Ask:=⟨d.ix,d.s1,d.s2,d.pol,d.w1,d.w2,ls,oi,ol⟩
theorem WG {d:Dm}{ds:List Dm}{ls:List L5}{oi ol:Int}{k:Int->Option α} :
  vu α ((d::ds).map rD) (ls.map rL) oi ol (fun _ e=>k e)=k (if dms (d::ds)=0 then ckA (py d ls oi ol) else dms (d::ds)):=by
 simp only [vu,af,JB]
 refine (ai3 (k:=fun e=>_)).trans ?_
 rw [eE]
 by_cases c:dms (d::ds)=0
 ·rw [if_pos c,if_pos c]
  refine (BK (i:=0) (d:=d) rfl).trans ?_
  refine (BK (i:=0) (d:=d) rfl).trans ?_
  rw [wn,af,Fy,v6,af,EL]
  exact JX (py d ls oi ol)
 ·rw [if_neg c,if_neg c]
def aot (d:Dm)(ds:List Dm)(ls:List L5)(oi ol:Int):Int:=if dms (d::ds)=0 then ckA (py d ls oi ol) else dms (d::ds)
def HD (s:Int)(q:Q6):Int × Int:=if s=2 then (q.2.2.2.2.1,q.2.2.2.2.2) else if s=1 then (q.2.2.1,q.2.2.2.1) else (q.1,q.2.1)
def l8 (d:Dm)(ls:List L5)(oi ol:Int):(Int × Int) × Int:=
 if (eV (py d ls oi ol)).2=0 then (HD d.sh (eV (py d ls oi ol)).1,0) else ((0,0),(eV (py d ls oi ol)).2)
theorem ags {d:Dm}(hs:0<=d.sh/\d.sh<=2){ls:List L5}{oi ol:Int}{k:Int->Int->Int->Option α} :
  zE α (ls.map rL) oi ol d.sh d.pol d.ix d.w1 d.w2 d.s1 d.s2 k=k (l8 d ls oi ol).1.1 (l8 d ls oi ol).1.2 (l8 d ls oi ol).2:=by
 simp only [zE,af,Ld,v6,af,EL]
 refine (TO (py d ls oi ol)).trans ?_
 unfold KS l8 HD
 generalize eV (py d ls oi ol)=q
 show cK (q.2 != 0) (k 0 0 q.2) (cK (d.sh == 2) (k q.1.2.2.2.2.1 q.1.2.2.2.2.2 0) (cK (d.sh == 1) (k q.1.2.2.1 q.1.2.2.2.1 0) (cK (d.sh == 0) (k q.1.1 q.1.2.1 0) none)))=_
 rw [eE]
 by_cases c:q.2=0
 ·simp only [if_pos c]
  by_cases c2:d.sh=2
  ·simp only [if_pos c2]
   rw [beq_iff_eq.2 c2,aq]
  ·simp only [if_neg c2]
   rw [beq_eq_false_iff_ne.2 c2,ap]
   by_cases c1:d.sh=1
   ·simp only [if_pos c1]
    rw [beq_iff_eq.2 c1,aq]
   ·simp only [if_neg c1]
    rw [beq_eq_false_iff_ne.2 c1,ap,beq_iff_eq.2 (show d.sh=0 by omega),aq]
 ·simp only [if_neg c]
end Go.AM.K
