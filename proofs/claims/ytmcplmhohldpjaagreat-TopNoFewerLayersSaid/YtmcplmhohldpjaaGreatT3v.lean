/- Bands: the search over a band, and the answer of a task. -/
import Derived.Test.YtmcplmhohldpjaaGreatCd
namespace Go.AM.K
set_option linter.unusedVariables false
set_option linter.unusedSimpArgs false
variable {α:Type}
def bdI (a:Int):Prop:=0<=a/\a<=200000
def Pc.bd (x:Pc):Prop:=bdI x.w1/\bdI x.w2/\bdI x.s1/\bdI x.s2
theorem lr {a b:Int}(h1:bdI a)(h2:bdI b){k:Int->Option α}:eG α a b k=k (gB a b):=by
 unfold bdI at h1 h2
 rw [eG,af,P1,ak (by omega) (by omega),Int.fdiv_eq_ediv_of_nonneg _ (by decide)]
 rfl
theorem yd {a b:Int}(h1:bdI a)(h2:bdI b){k:Bool->Option α}:mg α a b k=k (decide (hvP a b)):=by
 unfold bdI at h1 h2
 rw [mg,af,LG,ak (by omega) (by omega)]
 rfl
theorem N2 {a b:Int}(h1:bdI a)(h2:bdI b){k:Int->Int->Option α}:uA α a b k=k (gB a b) (gB a b):=by
 rw [uA,af,LT,lr h1 h2]
theorem Fi {k:Option α}:jj α k=k:=by rw [jj,af,Km]
theorem ED {x:Pc}(h:x.bd){k:Int->Option α}:iU α x.w1 x.w2 x.s1 x.s2 k=k (chE x):=by
 obtain⟨h1,h2,h3,h4⟩:=h
 rw [iU,af,Po,yd h1 h2,yd h3 h4,tZ,af,Cs]
 unfold bdI at h1 h2 h3 h4
 rw [ak (n:=x.s2 - x.s1) (by omega) (by omega),ak (n:=x.w2 - x.w1) (by omega) (by omega)]
 unfold chE
 by_cases c1:hvP x.w1 x.w2
 ·rw [decide_eq_true c1,aq]
  by_cases c2:hvP x.s1 x.s2
  ·rw [decide_eq_true c2,Bool.not_true,ap,aq,bi]
   by_cases c3:x.s2 - x.s1<=x.w2 - x.w1
   ·rw [if_pos c3,if_pos ⟨c1,Or.inr c3⟩]
   ·rw [if_neg c3,if_neg (fun h=>h.2.elim (fun g=>g c2) c3),if_pos c2]
  ·rw [decide_eq_false c2,Bool.not_false,aq,aq,if_pos ⟨c1,Or.inl c2⟩]
 ·rw [decide_eq_false c1,ap,ap,if_neg (fun h=>c1 h.1),bi]
  by_cases c2:hvP x.s1 x.s2
  ·rw [if_pos c2,if_pos c2]
  ·rw [if_neg c2,if_neg c2]
theorem Mf {x:Pc}(h:x.bd){c:Int}{k:Int->Int->Int->Int->Bool->Option α}:∃ b,jl α x.w1 x.w2 x.s1 x.s2 c k=k (x.cut c).1.w2 (x.cut c).1.s2 (x.cut c).2.w1 (x.cut c).2.s1 b:=by
 obtain⟨h1,h2,h3,h4⟩:=h
 rw [jl,af,Qe,N2 h1 h2,yd h1 h2,N2 h3 h4,yd h3 h4]
 unfold Pc.cut
 by_cases hc:c=1
 ·rw [beq_iff_eq.2 hc,aq,if_pos hc]
  exact⟨_,rfl⟩
 ·rw [beq_eq_false_iff_ne.2 hc,ap,if_neg hc]
  exact⟨_,rfl⟩
theorem ZI {a b:Int}(h1:bdI a)(h2:bdI b):bdI (gB a b):=by
 unfold bdI gB at *
 omega
theorem Om (x:Pc)(c:Int):(x.cut c).1.w1=x.w1/\(x.cut c).1.s1=x.s1/\(x.cut c).2.w2=x.w2/\(x.cut c).2.s2=x.s2:=by
 unfold Pc.cut
 by_cases hc:c=1
 ·rw [if_pos hc];exact⟨rfl,rfl,rfl,rfl⟩
 ·rw [if_neg hc];exact⟨rfl,rfl,rfl,rfl⟩
theorem E6 {x:Pc}(h:x.bd)(c:Int):(x.cut c).1.bd/\(x.cut c).2.bd:=by
 obtain⟨h1,h2,h3,h4⟩:=h
 have m1:=ZI h1 h2
 have m2:=ZI h3 h4
 unfold Pc.cut
 by_cases hc:c=1
 ·rw [if_pos hc];exact⟨⟨h1,m1,h3,h4⟩,m1,h2,h3,h4⟩
 ·rw [if_neg hc];exact⟨⟨h1,h2,h3,m2⟩,h1,h2,m2,h4⟩
theorem FZ {d:Dm}(hs:0<=d.sh/\d.sh<=2){x:Pc}{ls:List L5}{oi ol:Int}{k:Int->Option α}:ee α (ls.map rL) oi ol d.sh d.pol d.ix d.lo d.hi x.w1 x.w2 x.s1 x.s2 k=k (fj (x.dm d) ls oi ol):=LP (d:=x.dm d) hs
theorem yp {d:Dm}(hs:0<=d.sh/\d.sh<=2){x:Pc}{ls:List L5}{oi ol:Int}{k:Int->Option α}:ee α (ls.map rL) oi ol d.sh d.pol d.ix d.lo d.hi (gB x.w1 x.w2) (gB x.w1 x.w2) (gB x.s1 x.s2) (gB x.s1 x.s2) k=k (fj (x.mid.dm d) ls oi ol):=LP (d:=x.mid.dm d) hs
abbrev S1:Type 1:=(α:Type)->ae->Int->Int->Int->Int->Int->Int->Int->ae->Bool->Int->Int->Int->Int->Int->(ae->Bool->Option α)->(ae->Int->Int->Bool->Option α)->Option α
abbrev akp:Type 1:=(α:Type)->Int->Int->(Bool->Option α)->Option α
noncomputable def CW (J:akp)(g:S1):S1:=fun α x2 x3 x4 x5 x6 x7 x12 x13 x14 x15 x16 x17 x18 x19 x20 k1 k2=>
 ee α x2 x3 x4 x5 x6 x7 x12 x13 x16 x17 x18 x19 fun x21=>cK (x21 == 2)
  (gK (dv 1 8 x14 [[DC.v (.int .i64 0)]]) (k1 (x14++[[DC.v (.int .i64 0)]]) x15))
  (eG α x16 x17 fun x22=>eG α x18 x19 fun x23=>jj α
   (ee α x2 x3 x4 x5 x6 x7 x12 x13 x22 x22 x23 x23 fun x24=>cK (x24 == 0)
    (k2 x14 x22 x23 x15)
    (iU α x16 x17 x18 x19 fun x25=>J α x20 x25 fun x48=>cK x48
     (k1 x14 true)
     (gK (dv 1 8 x14 [[DC.v (.int .i64 x25)]]) (jl α x16 x17 x18 x19 x25 fun x50 x51 x52 x53 x54=>
      g α x2 x3 x4 x5 x6 x7 x12 x13 (x14++[[DC.v (.int .i64 x25)]]) x15 x16 x50 x18 x51 (w64 (x20+1))
       (fun x55 x56=>g α x2 x3 x4 x5 x6 x7 x12 x13 x55 x56 x52 x17 x53 x19 (w64 (x20+1)) (fun x57 x58=>k1 x57 x58) (fun x59 x60 x61 x62=>k2 x59 x60 x61 x62))
       (fun x63 x64 x65 x66=>k2 x63 x64 x65 x66))))))
def Bm (f:S1)(n:Nat):Prop:=∀ (α:Type) (d:Dm) (ls:List L5) (oi ol:Int) (tr:ae) (op:Bool) (x:Pc) (kA:ae->Bool->Option α) (kB:ae->Int->Int->Bool->Option α),
 (0<=d.sh/\d.sh<=2)->x.bd->tr.length+2 ^ (n+1)<=1000 ->
 ∃ (tr':ae) (o:Bool),tr'.length < tr.length+2 ^ (n+1)/\f α (ls.map rL) oi ol d.sh d.pol d.ix d.lo d.hi tr op x.w1 x.w2 x.s1 x.s2 (5 - (n:Int)) kA kB=
  match (vis d ls oi ol n x).1 with
  | none=>kA tr' (op || (vis d ls oi ol n x).2)
  | some m=>kB tr' m.1 m.2 o
def JOk (J:akp):Prop:=∀ (α:Type) (c x:Int) (k:Bool->Option α),J α c x k=k (decide (c=5) || decide (x=0))
theorem uy {c x:Int}{k:Bool->Option α}:cK (c == 5) (k true) (k (x == 0))=k (decide (c=5) || decide (x=0)):=by
 by_cases h:c=5
 ·rw [beq_iff_eq.2 h,aq,decide_eq_true h,Bool.true_or]
 ·rw [beq_eq_false_iff_ne.2 h,ap,decide_eq_false h,Bool.false_or]
  rfl
theorem aqa:JOk sJ:=fun α c x k=>by rw [sJ,af,H4,uy]
theorem amO:JOk rk:=fun α c x k=>by rw [rk,af,Hj,uy]
theorem ap8 {tr:ae}(h:tr.length<=1000)(v:Int):dv 1 8 tr [[DC.v (.int .i64 v)]]=true:=by
 refine decide_eq_true ⟨rfl,?_,?_⟩
 ·simp only [List.length_cons,List.length_nil];omega
 ·simp only [List.length_cons,List.length_nil];omega
theorem sT {J:akp}{g:S1}{n:Nat}(hn:n < 5)(hJ:JOk J)(hg:Bm g n):Bm (sld (CW J g)) (n+1):=by
 intro α d ls oi ol tr op x kA kB hs hx ht
 rw [af]
 unfold CW
 have hp1:1<=2 ^ (n+1):=Nat.one_le_two_pow
 have hp2:2 ^ (n+1+1)=2*2 ^ (n+1):=by rw [Nat.pow_succ];omega
 obtain⟨b1,b2,b3,b4⟩:=hx
 rw [FZ hs,lr b1 b2,lr b3 b4,Fi,yp hs,ED ⟨b1,b2,b3,b4⟩,hJ]
 show ∃ (tr':ae) (o:Bool),_/\cK (fj (x.dm d) ls oi ol == 2) _ (cK (fj (x.mid.dm d) ls oi ol == 0) _ _)=_
 rw [vis]
 by_cases c1:fj (x.dm d) ls oi ol=2
 ·rw [beq_iff_eq.2 c1,aq,cJ (ap8 (by omega) 0),if_pos c1]
  exact⟨tr++[[DC.v (.int .i64 0)]],false,by simp only [List.length_append,List.length_cons,List.length_nil];omega,by rw [Bool.or_false]⟩
 ·rw [beq_eq_false_iff_ne.2 c1,ap,if_neg c1]
  by_cases c2:fj (x.mid.dm d) ls oi ol=0
  ·rw [beq_iff_eq.2 c2,aq,if_pos c2]
   exact⟨tr,op,by omega,rfl⟩
  ·rw [beq_eq_false_iff_ne.2 c2,ap,if_neg c2,decide_eq_false (by omega),Bool.false_or]
   by_cases c3:chE x=0
   ·rw [decide_eq_true c3,aq,if_pos c3]
    exact⟨tr,false,by omega,by rw [Bool.or_true]⟩
   ·rw [decide_eq_false c3,ap,if_neg c3,cJ (ap8 (by omega) _)]
    obtain⟨b,eb⟩:=Mf (α:=α) (x:=x) ⟨b1,b2,b3,b4⟩ (c:=chE x) (k:=fun x50 x51 x52 x53 x54=>
      g α (ls.map rL) oi ol d.sh d.pol d.ix d.lo d.hi (tr++[[DC.v (.int .i64 (chE x))]]) op x.w1 x50 x.s1 x51 (w64 (5 - ((n+1:Nat):Int)+1))
       (fun x55 x56=>g α (ls.map rL) oi ol d.sh d.pol d.ix d.lo d.hi x55 x56 x52 x.w2 x53 x.s2 (w64 (5 - ((n+1:Nat):Int)+1)) (fun x57 x58=>kA x57 x58) (fun x59 x60 x61 x62=>kB x59 x60 x61 x62))
       (fun x63 x64 x65 x66=>kB x63 x64 x65 x66))
    rw [eb]
    have hw:w64 (5 - ((n+1:Nat):Int)+1)=5 - (n:Int):=by rw [ak (by omega) (by omega)];omega
    rw [hw]
    obtain⟨q1,q2,q3,q4⟩:=Om x (chE x)
    obtain⟨p1,p2⟩:=E6 (x:=x) ⟨b1,b2,b3,b4⟩ (chE x)
    generalize x.cut (chE x)=y at *
    rw [<- q1,<- q2,<- q3,<- q4]
    obtain⟨t1,o1,l1,r1⟩:=hg α d ls oi ol (tr++[[DC.v (.int .i64 (chE x))]]) op y.1
     (fun x55 x56=>g α (ls.map rL) oi ol d.sh d.pol d.ix d.lo d.hi x55 x56 y.2.w1 y.2.w2 y.2.s1 y.2.s2 (5 - (n:Int)) (fun x57 x58=>kA x57 x58) (fun x59 x60 x61 x62=>kB x59 x60 x61 x62)) (fun x63 x64 x65 x66=>kB x63 x64 x65 x66) hs p1
     (by simp only [List.length_append,List.length_cons,List.length_nil];omega)
    simp only [List.length_append,List.length_cons,List.length_nil] at l1
    rw [r1]
    cases h1:(vis d ls oi ol n y.1).1 with
    | some m=>
     rw [if_neg (fun h=>by cases h),h1]
     exact⟨t1,o1,by omega,rfl⟩
    | none=>
     rw [if_pos rfl]
     simp only
     obtain⟨t2,o2,l2,r2⟩:=hg α d ls oi ol t1 (op || (vis d ls oi ol n y.1).2) y.2 (fun x57 x58=>kA x57 x58) (fun x59 x60 x61 x62=>kB x59 x60 x61 x62) hs p2 (by omega)
     rw [r2]
     cases h2:(vis d ls oi ol n y.2).1 with
     | some m=>exact⟨t2,o2,by omega,rfl⟩
     | none=>exact⟨t2,o2,by omega,by rw [Bool.or_assoc]⟩
noncomputable def Tw (f:Ju):S1:=fun α x2 x3 x4 x5 x6 x7 x12 x13 x14 x15 x16 x17 x18 x19 x20 k1 k2=>f α x2 x3 x4 x5 x6 x7 x12 x13 x14 x15 x16 x17 x18 x19 x20 k1 fun x59 x60=>k2 x14 x59 x60 x15
theorem anQ:Bm (Tw yk) 0:=by
 intro α d ls oi ol tr op x kA kB hs hx ht
 unfold Tw
 rw [yk,af,XW]
 obtain⟨b1,b2,b3,b4⟩:=hx
 rw [FZ hs,lr b1 b2,lr b3 b4,Fi,yp hs,ED ⟨b1,b2,b3,b4⟩,aqa]
 show ∃ (tr':ae) (o:Bool),_/\cK (fj (x.dm d) ls oi ol == 2) _ (cK (fj (x.mid.dm d) ls oi ol == 0) _ _)=_
 rw [vis]
 by_cases c1:fj (x.dm d) ls oi ol=2
 ·rw [beq_iff_eq.2 c1,aq,cJ (ap8 (by omega) 0),if_pos c1]
  exact⟨tr++[[DC.v (.int .i64 0)]],false,by simp only [List.length_append,List.length_cons,List.length_nil];omega,by rw [Bool.or_false]⟩
 ·rw [beq_eq_false_iff_ne.2 c1,ap,if_neg c1]
  by_cases c2:fj (x.mid.dm d) ls oi ol=0
  ·rw [beq_iff_eq.2 c2,aq,if_pos c2]
   exact⟨tr,op,by omega,rfl⟩
  ·rw [beq_eq_false_iff_ne.2 c2,ap,if_neg c2,decide_eq_true (by omega),Bool.true_or,aq]
   exact⟨tr,false,by omega,by rw [Bool.or_true]⟩
theorem apq:Bm Ar 1:=by
 have h:Ar=sld (CW qX (Tw yk)):=rfl
 rw [h]
 exact sT (by decide) (fun α c x k=>by rw [qX,af,Gw,uy]) anQ
theorem arn:Bm yZ 2:=by
 have h:yZ=sld (CW sd Ar):=rfl
 rw [h]
 exact sT (by decide) (fun α c x k=>by rw [sd,af,HS,uy]) apq
theorem aoa:Bm zl 3:=by
 have h:zl=sld (CW rR yZ):=rfl
 rw [h]
 exact sT (by decide) (fun α c x k=>by rw [rR,af,G5,uy]) arn
theorem ah2:Bm rg 4:=by
 have h:rg=sld (CW sj zl):=rfl
 rw [h]
 exact sT (by decide) (fun α c x k=>by rw [sj,af,Gf,uy]) aoa
def Dm.pc (d:Dm):Pc:=⟨d.w1,d.w2,d.s1,d.s2⟩
theorem akW {d:Dm}(hs:0<=d.sh/\d.sh<=2)(hx:d.pc.bd){ls:List L5}{oi ol:Int}{kA:ae->Bool->Option α}{kB:Int->Int->Option α}{kC:Option α}{kD:ae->Int->Int->Bool->Option α} :
  ∃ (tr:ae) (o o2:Bool),F6 α (ls.map rL) oi ol d.sh d.pol d.ix d.lo d.hi false d.w1 d.w2 d.s1 d.s2 0 kA kB kC kD=
   match (vis d ls oi ol 5 d.pc).1 with
   | none=>if o=true/\(vis d ls oi ol 5 d.pc).2=true then kC else kA tr (vis d ls oi ol 5 d.pc).2
   | some m=>if o=true then kB m.1 m.2 else kD tr m.1 m.2 o2:=by
 rw [F6,af,aas]
 have hw:d.w1=d.pc.w1/\d.w2=d.pc.w2/\d.s1=d.pc.s1/\d.s2=d.pc.s2:=⟨rfl,rfl,rfl,rfl⟩
 obtain⟨w1,w2,w3,w4⟩:=hw
 rw [w1,w2,w3,w4]
 clear w1 w2 w3 w4
 generalize d.pc=x at *
 obtain⟨b1,b2,b3,b4⟩:=hx
 rw [FZ hs,lr b1 b2,lr b3 b4,Fi,yp hs,ED ⟨b1,b2,b3,b4⟩,amO]
 show ∃ (tr:ae) (o o2:Bool),cK (fj (x.dm d) ls oi ol == 2) _ (cK (fj (x.mid.dm d) ls oi ol == 0) _ _)=_
 rw [vis]
 by_cases c1:fj (x.dm d) ls oi ol=2
 ·rw [beq_iff_eq.2 c1,aq,if_pos c1]
  exact⟨[[DC.v (.int .i64 0)]],false,false,rfl⟩
 ·rw [beq_eq_false_iff_ne.2 c1,ap,if_neg c1]
  by_cases c2:fj (x.mid.dm d) ls oi ol=0
  ·rw [beq_iff_eq.2 c2,aq,if_pos c2]
   exact⟨[],true,false,rfl⟩
  ·rw [beq_eq_false_iff_ne.2 c2,ap,if_neg c2,decide_eq_false (by decide),Bool.false_or]
   by_cases c3:chE x=0
   ·rw [decide_eq_true c3,aq,if_pos c3]
    exact⟨[],true,false,rfl⟩
   ·rw [decide_eq_false c3,ap,if_neg c3]
    obtain⟨b,eb⟩:=Mf (α:=α) (x:=x) ⟨b1,b2,b3,b4⟩ (c:=chE x) (k:=fun x48 x49 x50 x51 x52=>
      rg α (ls.map rL) oi ol d.sh d.pol d.ix d.lo d.hi [[DC.v (.int .i64 (chE x))]] false x.w1 x48 x.s1 x49 (w64 (0+1))
       (fun x53 x54=>rg α (ls.map rL) oi ol d.sh d.pol d.ix d.lo d.hi x53 x54 x50 x.w2 x51 x.s2 (w64 (0+1)) (fun x55 x56=>kA x55 x56) (fun x57 x58 x59 x60=>kD x57 x58 x59 x60))
       (fun x61 x62 x63 x64=>kD x61 x62 x63 x64))
    rw [eb]
    have hw:w64 (0+1)=5 - ((4:Nat):Int):=by decide
    rw [hw]
    obtain⟨q1,q2,q3,q4⟩:=Om x (chE x)
    obtain⟨p1,p2⟩:=E6 (x:=x) ⟨b1,b2,b3,b4⟩ (chE x)
    generalize x.cut (chE x)=y at *
    rw [<- q1,<- q2,<- q3,<- q4]
    obtain⟨t1,o1,l1,r1⟩:=ah2 α d ls oi ol [[DC.v (.int .i64 (chE x))]] false y.1
     (fun x53 x54=>rg α (ls.map rL) oi ol d.sh d.pol d.ix d.lo d.hi x53 x54 y.2.w1 y.2.w2 y.2.s1 y.2.s2 (5 - ((4:Nat):Int)) (fun x55 x56=>kA x55 x56) (fun x57 x58 x59 x60=>kD x57 x58 x59 x60)) (fun x61 x62 x63 x64=>kD x61 x62 x63 x64) hs p1
     (by simp only [List.length_cons,List.length_nil];decide)
    simp only [List.length_cons,List.length_nil] at l1
    rw [r1]
    cases h1:(vis d ls oi ol 4 y.1).1 with
    | some m=>
     rw [if_neg (fun h=>by cases h),h1]
     exact⟨t1,false,o1,rfl⟩
    | none=>
     rw [if_pos rfl]
     simp only
     obtain⟨t2,o2,l2,r2⟩:=ah2 α d ls oi ol t1 (false || (vis d ls oi ol 4 y.1).2) y.2 (fun x55 x56=>kA x55 x56) (fun x57 x58 x59 x60=>kD x57 x58 x59 x60) hs p2 (by simp only [Nat.reduceAdd,Nat.reducePow] at l1 ⊢;omega)
     rw [r2]
     cases h2:(vis d ls oi ol 4 y.2).1 with
     | some m=>exact⟨t2,false,o2,rfl⟩
     | none=>exact⟨t2,false,false,by rw [Bool.false_or,if_neg (fun h=>by cases h.1)]⟩
end Go.AM.K
