/- Texts of one kind, put together. -/
import Derived.Test.YtffcelhcekillaaGreatYc
namespace Go.AM.K
open Go.AM
set_option linter.unusedVariables false
set_option linter.unusedSimpArgs false
theorem bT {β:Type}{L:List β}{i:Nat}{x:β}{r:List β}(h:L.drop i=x::r):L[i]?=some x/\L.drop (i+1)=r:=by
 have h1:=congrArg List.head? h;rw [List.head?_drop] at h1;have h2:=congrArg List.tail h;rw [List.tail_drop] at h2;exact⟨h1,h2⟩
def okD (d:Dm):Prop:=(0<=d.lo/\d.lo<=10000)/\0<=d.hi/\d.hi<=10000
structure Pc where
 w1:Int
 w2:Int
 s1:Int
 s2:Int
def Pc.dm (x:Pc)(d:Dm):Dm:={ d with w1:=x.w1,w2:=x.w2,s1:=x.s1,s2:=x.s2 }
def dA (a b:Int):Int:=(a+b) / 2
def Pc.mid (x:Pc):Pc:=⟨dA x.w1 x.w2,dA x.w1 x.w2,dA x.s1 x.s2,dA x.s1 x.s2⟩
def hvP (a b:Int):Prop:=2<=b - a
instance {a b:Int}:Decidable (hvP a b):=by unfold hvP;exact inferInstance
def chE (x:Pc):Int:=if hvP x.w1 x.w2/\(¬ hvP x.s1 x.s2\/x.s2 - x.s1<=x.w2 - x.w1) then 1 else if hvP x.s1 x.s2 then 2 else 0
def Pc.cut (x:Pc)(c:Int):Pc × Pc:=if c=1 then ({ x with w2:=dA x.w1 x.w2 },{ x with w1:=dA x.w1 x.w2 }) else ({ x with s2:=dA x.s1 x.s2 },{ x with s1:=dA x.s1 x.s2 })
def vis (d:Dm)(ls:List L5)(oi ol:Int):Nat->Pc->Option (Int × Int) × Bool
 | 0,x=>if gy (x.dm d) ls oi ol=2 then (none,false) else if gy (x.mid.dm d) ls oi ol=0 then (some (dA x.w1 x.w2,dA x.s1 x.s2),false) else (none,true)
 | n+1,x=>if gy (x.dm d) ls oi ol=2 then (none,false) else if gy (x.mid.dm d) ls oi ol=0 then (some (dA x.w1 x.w2,dA x.s1 x.s2),false) else
  if chE x=0 then (none,true) else
   if (vis d ls oi ol n (x.cut (chE x)).1).1=none then ((vis d ls oi ol n (x.cut (chE x)).2).1,(vis d ls oi ol n (x.cut (chE x)).1).2 || (vis d ls oi ol n (x.cut (chE x)).2).2)
   else vis d ls oi ol n (x.cut (chE x)).1
def Pc.ok (x:Pc):Prop:=x.w1<=x.w2/\x.s1<=x.s2
def Pc.has (x:Pc)(w s:Int):Prop:=(x.w1<=w/\w<=x.w2)/\x.s1<=s/\s<=x.s2
theorem axx {n d:Int}(h0:0<=n)(h1:n<=4611686018427387904)(hd:0 < d)(hd2:d<=1000000000):upI n d=(n+d - 1) / d:=by
 unfold upI;rw [aj (n:=n+d) (by omega) (by omega),aj (n:=n+d - 1) (by omega) (by omega),Int.tdiv_eq_ediv_of_nonneg (by omega)];have a:=Int.ediv_nonneg (a:=n+d - 1) (by omega) (Int.le_of_lt hd);have b:=Int.ediv_le_self (a:=n+d - 1) d (by omega);rw [aj (by omega) (by omega)]
theorem acp {lo hi a b:Int}(h:fJ lo hi a b=0):a<=lo/\lo<=hi/\hi<=b:=by
 unfold fJ at h;by_cases c:(a<=lo/\lo<=b)/\a<=hi/\hi<=b
 ·rw [if_pos c] at h
  by_cases c2:hi < lo
  ·rw [if_pos c2] at h;exact absurd h (by decide)
  ·omega
 ·rw [if_neg c] at h;exact absurd h (by decide)
variable {α:Type}
def bdI (a:Int):Prop:=0<=a/\a<=200000
def Pc.bd (x:Pc):Prop:=bdI x.w1/\bdI x.w2/\bdI x.s1/\bdI x.s2
theorem mY {a b:Int}(h1:bdI a)(h2:bdI b){k:Int->Option α}:gh α a b k=k (dA a b):=by
 unfold bdI at h1 h2;rw [gh,af,Sx,aj (by omega) (by omega),Int.fdiv_eq_ediv_of_nonneg _ (by decide)];rfl
theorem AC {a b:Int}(h1:bdI a)(h2:bdI b){k:Bool->Option α}:oX α a b k=k (decide (hvP a b)):=by
 unfold bdI at h1 h2;rw [oX,af,Yb,aj (by omega) (by omega)];rfl
theorem Uj {a b:Int}(h1:bdI a)(h2:bdI b){k:Int->Int->Option α}:yg α a b k=k (dA a b) (dA a b):=by
 rw [yg,af,VX,mY h1 h2]
theorem O5 {k:Option α}:ug α k=k:=by rw [ug,af,ac1]
theorem Jr {x:Pc}(h:x.bd){k:Int->Option α}:mR α x.w1 x.w2 x.s1 x.s2 k=k (chE x):=by
 obtain⟨h1,h2,h3,h4⟩:=h;rw [mR,af,Zq,AC h1 h2,AC h3 h4,tO,af,Gm];unfold bdI at h1 h2 h3 h4;rw [aj (n:=x.s2 - x.s1) (by omega) (by omega),aj (n:=x.w2 - x.w1) (by omega) (by omega)];unfold chE;by_cases c1:hvP x.w1 x.w2
 ·rw [decide_eq_true c1,ap]
  by_cases c2:hvP x.s1 x.s2
  ·rw [decide_eq_true c2,Bool.not_true,al,ap,aK]
   by_cases c3:x.s2 - x.s1<=x.w2 - x.w1
   ·rw [if_pos c3,if_pos ⟨c1,Or.inr c3⟩]
   ·rw [if_neg c3,if_neg (fun h=>h.2.elim (fun g=>g c2) c3),if_pos c2]
  ·rw [decide_eq_false c2,Bool.not_false,ap,ap,if_pos ⟨c1,Or.inl c2⟩]
 ·rw [decide_eq_false c1,al,al,if_neg (fun h=>c1 h.1),aK]
  by_cases c2:hvP x.s1 x.s2
  ·rw [if_pos c2,if_pos c2]
  ·rw [if_neg c2,if_neg c2]
theorem RZ {x:Pc}(h:x.bd){c:Int}{k:Int->Int->Int->Int->Bool->Option α}:∃ b,mB α x.w1 x.w2 x.s1 x.s2 c k=k (x.cut c).1.w2 (x.cut c).1.s2 (x.cut c).2.w1 (x.cut c).2.s1 b:=by
 obtain⟨h1,h2,h3,h4⟩:=h;rw [mB,af,UL,Uj h1 h2,AC h1 h2,Uj h3 h4,AC h3 h4];unfold Pc.cut;by_cases hc:c=1
 ·rw [beq_iff_eq.2 hc,ap,if_pos hc]
  exact⟨_,rfl⟩
 ·rw [beq_eq_false_iff_ne.2 hc,al,if_neg hc]
  exact⟨_,rfl⟩
theorem aek {a b:Int}(h1:bdI a)(h2:bdI b):bdI (dA a b):=by
 unfold bdI dA at *;omega
theorem zD (x:Pc)(c:Int):(x.cut c).1.w1=x.w1/\(x.cut c).1.s1=x.s1/\(x.cut c).2.w2=x.w2/\(x.cut c).2.s2=x.s2:=by
 unfold Pc.cut;by_cases hc:c=1
 ·rw [if_pos hc];exact⟨rfl,rfl,rfl,rfl⟩
 ·rw [if_neg hc];exact⟨rfl,rfl,rfl,rfl⟩
theorem Ki {x:Pc}(h:x.bd)(c:Int):(x.cut c).1.bd/\(x.cut c).2.bd:=by
 obtain⟨h1,h2,h3,h4⟩:=h;have m1:=aek h1 h2;have m2:=aek h3 h4;unfold Pc.cut;by_cases hc:c=1
 ·rw [if_pos hc];exact⟨⟨h1,m1,h3,h4⟩,m1,h2,h3,h4⟩
 ·rw [if_neg hc];exact⟨⟨h1,h2,h3,m2⟩,h1,h2,m2,h4⟩
theorem Pi {d:Dm}(hs:0<=d.sh/\d.sh<=2){x:Pc}{ls:List L5}{oi ol:Int}{k:Int->Option α}:iI α (ls.map rL) oi ol d.sh d.pol d.ix d.lo d.hi x.w1 x.w2 x.s1 x.s2 k=k (gy (x.dm d) ls oi ol):=ajE (d:=x.dm d) hs
theorem Jm {d:Dm}(hs:0<=d.sh/\d.sh<=2){x:Pc}{ls:List L5}{oi ol:Int}{k:Int->Option α}:iI α (ls.map rL) oi ol d.sh d.pol d.ix d.lo d.hi (dA x.w1 x.w2) (dA x.w1 x.w2) (dA x.s1 x.s2) (dA x.s1 x.s2) k=k (gy (x.mid.dm d) ls oi ol):=ajE (d:=x.mid.dm d) hs
abbrev alo:Type 1:=(α:Type)->ae->Int->Int->Int->Int->Int->Int->Int->ae->Bool->Int->Int->Int->Int->Int->(ae->Bool->Option α)->(ae->Int->Int->Bool->Option α)->Option α
abbrev awl:Type 1:=(α:Type)->Int->Int->(Bool->Option α)->Option α
noncomputable def GC (J:awl)(g:alo):alo:=fun α x2 x3 x4 x5 x6 x7 x12 x13 x14 x15 x16 x17 x18 x19 x20 k1 k2=>
 iI α x2 x3 x4 x5 x6 x7 x12 x13 x16 x17 x18 x19 fun x21=>cK (x21 == 2)
  (gK (dH 1 8 x14 [[DC.v (.int .i64 0)]]) (k1 (x14++[[DC.v (.int .i64 0)]]) x15))
  (gh α x16 x17 fun x22=>gh α x18 x19 fun x23=>ug α
   (iI α x2 x3 x4 x5 x6 x7 x12 x13 x22 x22 x23 x23 fun x24=>cK (x24 == 0)
    (k2 x14 x22 x23 x15)
    (mR α x16 x17 x18 x19 fun x25=>J α x20 x25 fun x48=>cK x48
     (k1 x14 true)
     (gK (dH 1 8 x14 [[DC.v (.int .i64 x25)]]) (mB α x16 x17 x18 x19 x25 fun x50 x51 x52 x53 x54=>
      g α x2 x3 x4 x5 x6 x7 x12 x13 (x14++[[DC.v (.int .i64 x25)]]) x15 x16 x50 x18 x51 (w64 (x20+1))
       (fun x55 x56=>g α x2 x3 x4 x5 x6 x7 x12 x13 x55 x56 x52 x17 x53 x19 (w64 (x20+1)) (fun x57 x58=>k1 x57 x58) (fun x59 x60 x61 x62=>k2 x59 x60 x61 x62))
       (fun x63 x64 x65 x66=>k2 x63 x64 x65 x66))))))
def EK (f:alo)(n:Nat):Prop:=∀ (α:Type) (d:Dm) (ls:List L5) (oi ol:Int) (tr:ae) (op:Bool) (x:Pc) (kA:ae->Bool->Option α) (kB:ae->Int->Int->Bool->Option α),
 (0<=d.sh/\d.sh<=2)->x.bd->tr.length+2 ^ (n+1)<=1000 ->
 ∃ (tr':ae) (o:Bool),tr'.length < tr.length+2 ^ (n+1)/\f α (ls.map rL) oi ol d.sh d.pol d.ix d.lo d.hi tr op x.w1 x.w2 x.s1 x.s2 (5 - (n:Int)) kA kB=
  match (vis d ls oi ol n x).1 with
  | none=>kA tr' (op || (vis d ls oi ol n x).2)
  | some m=>kB tr' m.1 m.2 o
def JOk (J:awl):Prop:=∀ (α:Type) (c x:Int) (k:Bool->Option α),J α c x k=k (decide (c=5) || decide (x=0))
theorem yS {c x:Int}{k:Bool->Option α}:cK (c == 5) (k true) (k (x == 0))=k (decide (c=5) || decide (x=0)):=by
 by_cases h:c=5
 ·rw [beq_iff_eq.2 h,ap,decide_eq_true h,Bool.true_or]
 ·rw [beq_eq_false_iff_ne.2 h,al,decide_eq_false h,Bool.false_or]
  rfl
theorem az4:JOk ch:=fun α c x k=>by rw [ch,af,jv,yS]
theorem aBB:JOk ch:=fun α c x k=>by rw [ch,af,jv,yS]
theorem ap8 {tr:ae}(h:tr.length<=1000)(v:Int):dH 1 8 tr [[DC.v (.int .i64 v)]]=true:=by
 refine decide_eq_true ⟨rfl,?_,?_⟩
 ·simp only [List.length_cons,List.length_nil];omega
 ·simp only [List.length_cons,List.length_nil];omega
theorem tG {J:awl}{g:alo}{n:Nat}(hn:n < 5)(hJ:JOk J)(hg:EK g n):EK (sld (GC J g)) (n+1):=by
 intro α d ls oi ol tr op x kA kB hs hx ht;rw [af];unfold GC;have hp1:1<=2 ^ (n+1):=Nat.one_le_two_pow;have hp2:2 ^ (n+1+1)=2*2 ^ (n+1):=by rw [Nat.pow_succ];omega
 obtain⟨b1,b2,b3,b4⟩:=hx;rw [Pi hs,mY b1 b2,mY b3 b4,O5,Jm hs,Jr ⟨b1,b2,b3,b4⟩,hJ];show ∃ (tr':ae) (o:Bool),_/\cK (gy (x.dm d) ls oi ol == 2) _ (cK (gy (x.mid.dm d) ls oi ol == 0) _ _)=_;rw [vis];by_cases c1:gy (x.dm d) ls oi ol=2
 ·rw [beq_iff_eq.2 c1,ap,bO (ap8 (by omega) 0),if_pos c1]
  exact⟨tr++[[DC.v (.int .i64 0)]],false,by simp only [List.length_append,List.length_cons,List.length_nil];omega,by rw [Bool.or_false]⟩
 ·rw [beq_eq_false_iff_ne.2 c1,al,if_neg c1]
  by_cases c2:gy (x.mid.dm d) ls oi ol=0
  ·rw [beq_iff_eq.2 c2,ap,if_pos c2]
   exact⟨tr,op,by omega,rfl⟩
  ·rw [beq_eq_false_iff_ne.2 c2,al,if_neg c2,decide_eq_false (by omega),Bool.false_or]
   by_cases c3:chE x=0
   ·rw [decide_eq_true c3,ap,if_pos c3]
    exact⟨tr,false,by omega,by rw [Bool.or_true]⟩
   ·rw [decide_eq_false c3,al,if_neg c3,bO (ap8 (by omega) _)]
    obtain⟨b,eb⟩:=RZ (α:=α) (x:=x) ⟨b1,b2,b3,b4⟩ (c:=chE x) (k:=fun x50 x51 x52 x53 x54=>
      g α (ls.map rL) oi ol d.sh d.pol d.ix d.lo d.hi (tr++[[DC.v (.int .i64 (chE x))]]) op x.w1 x50 x.s1 x51 (w64 (5 - ((n+1:Nat):Int)+1))
       (fun x55 x56=>g α (ls.map rL) oi ol d.sh d.pol d.ix d.lo d.hi x55 x56 x52 x.w2 x53 x.s2 (w64 (5 - ((n+1:Nat):Int)+1)) (fun x57 x58=>kA x57 x58) (fun x59 x60 x61 x62=>kB x59 x60 x61 x62))
       (fun x63 x64 x65 x66=>kB x63 x64 x65 x66))
    rw [eb];have hw:w64 (5 - ((n+1:Nat):Int)+1)=5 - (n:Int):=by rw [aj (by omega) (by omega)];omega
    rw [hw];obtain⟨q1,q2,q3,q4⟩:=zD x (chE x);obtain⟨p1,p2⟩:=Ki (x:=x) ⟨b1,b2,b3,b4⟩ (chE x);generalize x.cut (chE x)=y at *;rw [<- q1,<- q2,<- q3,<- q4];obtain⟨t1,o1,l1,r1⟩:=hg α d ls oi ol (tr++[[DC.v (.int .i64 (chE x))]]) op y.1
     (fun x55 x56=>g α (ls.map rL) oi ol d.sh d.pol d.ix d.lo d.hi x55 x56 y.2.w1 y.2.w2 y.2.s1 y.2.s2 (5 - (n:Int)) (fun x57 x58=>kA x57 x58) (fun x59 x60 x61 x62=>kB x59 x60 x61 x62)) (fun x63 x64 x65 x66=>kB x63 x64 x65 x66) hs p1
     (by simp only [List.length_append,List.length_cons,List.length_nil];omega)
    simp only [List.length_append,List.length_cons,List.length_nil] at l1;rw [r1];cases h1:(vis d ls oi ol n y.1).1 with
    | some m=>
     rw [if_neg (fun h=>by cases h),h1];exact⟨t1,o1,by omega,rfl⟩
    | none=>
     rw [if_pos rfl];simp only;obtain⟨t2,o2,l2,r2⟩:=hg α d ls oi ol t1 (op || (vis d ls oi ol n y.1).2) y.2 (fun x57 x58=>kA x57 x58) (fun x59 x60 x61 x62=>kB x59 x60 x61 x62) hs p2 (by omega);rw [r2];cases h2:(vis d ls oi ol n y.2).1 with
     | some m=>exact⟨t2,o2,by omega,rfl⟩
     | none=>exact⟨t2,o2,by omega,by rw [Bool.or_assoc]⟩
noncomputable def ajB (f:OX):alo:=fun α x2 x3 x4 x5 x6 x7 x12 x13 x14 x15 x16 x17 x18 x19 x20 k1 k2=>f α x2 x3 x4 x5 x6 x7 x12 x13 x14 x15 x16 x17 x18 x19 x20 k1 fun x59 x60=>k2 x14 x59 x60 x15
theorem aEk:EK (ajB DF) 0:=by
 intro α d ls oi ol tr op x kA kB hs hx ht;unfold ajB;rw [DF,af,ahM];obtain⟨b1,b2,b3,b4⟩:=hx;rw [Pi hs,mY b1 b2,mY b3 b4,O5,Jm hs,Jr ⟨b1,b2,b3,b4⟩,az4];show ∃ (tr':ae) (o:Bool),_/\cK (gy (x.dm d) ls oi ol == 2) _ (cK (gy (x.mid.dm d) ls oi ol == 0) _ _)=_;rw [vis];by_cases c1:gy (x.dm d) ls oi ol=2
 ·rw [beq_iff_eq.2 c1,ap,bO (ap8 (by omega) 0),if_pos c1]
  exact⟨tr++[[DC.v (.int .i64 0)]],false,by simp only [List.length_append,List.length_cons,List.length_nil];omega,by rw [Bool.or_false]⟩
 ·rw [beq_eq_false_iff_ne.2 c1,al,if_neg c1]
  by_cases c2:gy (x.mid.dm d) ls oi ol=0
  ·rw [beq_iff_eq.2 c2,ap,if_pos c2]
   exact⟨tr,op,by omega,rfl⟩
  ·rw [beq_eq_false_iff_ne.2 c2,al,if_neg c2,decide_eq_true (by omega),Bool.true_or,ap]
   exact⟨tr,false,by omega,by rw [Bool.or_true]⟩
theorem aDI:EK Hx 1:=by
 have h:Hx=sld (GC ch (ajB DF)):=rfl;rw [h];exact tG (by decide) (fun α c x k=>by rw [ch,af,jv,yS]) aEk
theorem aB3:EK HI 2:=by
 have h:HI=sld (GC ch Hx):=rfl;rw [h];exact tG (by decide) (fun α c x k=>by rw [ch,af,jv,yS]) aDI
theorem aD6:EK FX 3:=by
 have h:FX=sld (GC ch HI):=rfl;rw [h];exact tG (by decide) (fun α c x k=>by rw [ch,af,jv,yS]) aB3
theorem awg:EK wT 4:=by
 have h:wT=sld (GC ch FX):=rfl;rw [h];exact tG (by decide) (fun α c x k=>by rw [ch,af,jv,yS]) aD6
def Dm.pc (d:Dm):Pc:=⟨d.w1,d.w2,d.s1,d.s2⟩
theorem axe {d:Dm}(hs:0<=d.sh/\d.sh<=2)(hx:d.pc.bd){ls:List L5}{oi ol:Int}{kA:ae->Bool->Option α}{kB:Int->Int->Option α}{kC:Option α}{kD:ae->Int->Int->Bool->Option α} :
  ∃ (tr:ae) (o o2:Bool),Nq α (ls.map rL) oi ol d.sh d.pol d.ix d.lo d.hi false d.w1 d.w2 d.s1 d.s2 0 kA kB kC kD=
   match (vis d ls oi ol 5 d.pc).1 with
   | none=>if o=true/\(vis d ls oi ol 5 d.pc).2=true then kC else kA tr (vis d ls oi ol 5 d.pc).2
   | some m=>if o=true then kB m.1 m.2 else kD tr m.1 m.2 o2:=by
 rw [Nq,af,alr];have hw:d.w1=d.pc.w1/\d.w2=d.pc.w2/\d.s1=d.pc.s1/\d.s2=d.pc.s2:=⟨rfl,rfl,rfl,rfl⟩
 obtain⟨w1,w2,w3,w4⟩:=hw;rw [w1,w2,w3,w4];clear w1 w2 w3 w4;generalize d.pc=x at *;obtain⟨b1,b2,b3,b4⟩:=hx;rw [Pi hs,mY b1 b2,mY b3 b4,O5,Jm hs,Jr ⟨b1,b2,b3,b4⟩,aBB];show ∃ (tr:ae) (o o2:Bool),cK (gy (x.dm d) ls oi ol == 2) _ (cK (gy (x.mid.dm d) ls oi ol == 0) _ _)=_;rw [vis];by_cases c1:gy (x.dm d) ls oi ol=2
 ·rw [beq_iff_eq.2 c1,ap,if_pos c1]
  exact⟨[[DC.v (.int .i64 0)]],false,false,rfl⟩
 ·rw [beq_eq_false_iff_ne.2 c1,al,if_neg c1]
  by_cases c2:gy (x.mid.dm d) ls oi ol=0
  ·rw [beq_iff_eq.2 c2,ap,if_pos c2]
   exact⟨[],true,false,rfl⟩
  ·rw [beq_eq_false_iff_ne.2 c2,al,if_neg c2,decide_eq_false (by decide),Bool.false_or]
   by_cases c3:chE x=0
   ·rw [decide_eq_true c3,ap,if_pos c3]
    exact⟨[],true,false,rfl⟩
   ·rw [decide_eq_false c3,al,if_neg c3]
    obtain⟨b,eb⟩:=RZ (α:=α) (x:=x) ⟨b1,b2,b3,b4⟩ (c:=chE x) (k:=fun x48 x49 x50 x51 x52=>
      wT α (ls.map rL) oi ol d.sh d.pol d.ix d.lo d.hi [[DC.v (.int .i64 (chE x))]] false x.w1 x48 x.s1 x49 (w64 (0+1))
       (fun x53 x54=>wT α (ls.map rL) oi ol d.sh d.pol d.ix d.lo d.hi x53 x54 x50 x.w2 x51 x.s2 (w64 (0+1)) (fun x55 x56=>kA x55 x56) (fun x57 x58 x59 x60=>kD x57 x58 x59 x60))
       (fun x61 x62 x63 x64=>kD x61 x62 x63 x64))
    rw [eb];have hw:w64 (0+1)=5 - ((4:Nat):Int):=by decide
    rw [hw];obtain⟨q1,q2,q3,q4⟩:=zD x (chE x);obtain⟨p1,p2⟩:=Ki (x:=x) ⟨b1,b2,b3,b4⟩ (chE x);generalize x.cut (chE x)=y at *;rw [<- q1,<- q2,<- q3,<- q4];obtain⟨t1,o1,l1,r1⟩:=awg α d ls oi ol [[DC.v (.int .i64 (chE x))]] false y.1
     (fun x53 x54=>wT α (ls.map rL) oi ol d.sh d.pol d.ix d.lo d.hi x53 x54 y.2.w1 y.2.w2 y.2.s1 y.2.s2 (5 - ((4:Nat):Int)) (fun x55 x56=>kA x55 x56) (fun x57 x58 x59 x60=>kD x57 x58 x59 x60)) (fun x61 x62 x63 x64=>kD x61 x62 x63 x64) hs p1
     (by simp only [List.length_cons,List.length_nil];decide)
    simp only [List.length_cons,List.length_nil] at l1;rw [r1];cases h1:(vis d ls oi ol 4 y.1).1 with
    | some m=>
     rw [if_neg (fun h=>by cases h),h1];exact⟨t1,false,o1,rfl⟩
    | none=>
     rw [if_pos rfl];simp only;obtain⟨t2,o2,l2,r2⟩:=awg α d ls oi ol t1 (false || (vis d ls oi ol 4 y.1).2) y.2 (fun x55 x56=>kA x55 x56) (fun x57 x58 x59 x60=>kD x57 x58 x59 x60) hs p2 (by simp only [Nat.reduceAdd,Nat.reducePow] at l1 ⊢;omega);rw [r2];cases h2:(vis d ls oi ol 4 y.2).1 with
     | some m=>exact⟨t2,false,o2,rfl⟩
     | none=>exact⟨t2,false,false,by rw [Bool.false_or,if_neg (fun h=>by cases h.1)]⟩
def me (ls:List L5)(oi ol:Int):List Dm->Int->Nat->Int × Int × Int × Int
 | [],a,_=>(a,0,0,0)
 | d::r,a,i=>match (vis d ls oi ol 5 d.pc).1 with
  | some m=>(0,(i:Int),m.1,m.2)
  | none=>me ls oi ol r (if (vis d ls oi ol 5 d.pc).2=true then 1 else a) (i+1)
theorem al0 {tr:ae}(h:tr.length<=1000)(v:ae):dH 1 24 tr [[DC.sl v]]=true:=by
 refine decide_eq_true ⟨rfl,?_,?_⟩
 ·simp only [List.length_cons,List.length_nil];omega
 ·simp only [List.length_cons,List.length_nil];omega
theorem aFJ {d:Dm}(h:ckD d=0):(0<=d.sh/\d.sh<=2)/\d.pc.bd/\d.pc.ok/\okD d:=by
 obtain⟨⟨h1,_⟩,⟨_,h2,h3⟩,h4,⟨h5,h6⟩,h7,⟨h8,h9⟩,_⟩:=Ps h;unfold Pc.bd Pc.ok Dm.pc bdI okD;simp only;omega
theorem arp {a:Int}{x y:Option α}:cK (a != 2) x y=if a=2 then y else x:=by
 by_cases h:a=2
 ·rw [if_pos h,h];rfl
 ·rw [if_neg h,bne_iff_ne.2 h,ap]
theorem azS {ds:List Dm}{ls:List L5}{oi ol:Int}(hl:ds.length<=8){k1:Int->Int->Int->Option α}{k2:Int->Int->Bool->ae->Option α}{K:Int->ae->Int->Int->Int->Option α}
  (h1:∀ i w s,k1 i w s=K 0 [] i w s) (h2:∀ a i b tr,k2 a i b tr=if a=2 then K a tr 0 0 0 else K a [] 0 0 0) :
  ∀ (rest:List Dm) (i n:Nat) (a:Int) (tr:ae),(∀ d ∈ rest,ckD d=0)->ds.drop i=rest->i<=ds.length->rest.length < n->tr.length=i->(a=1\/a=2) ->
  ∃ tr',mP α (ds.map rD) (ds.length:Int) (ls.map rL) oi ol k1 k2 n a (i:Int) tr=K (me ls oi ol rest a i).1 tr' (me ls oi ol rest a i).2.1 (me ls oi ol rest a i).2.2.1 (me ls oi ol rest a i).2.2.2:=by
 intro rest
 induction rest with
 | nil=>
  intro i n a tr hc hd hi hn ht ha;obtain⟨n,rfl⟩:∃ n',n=n'+1:=⟨n - 1,by simp only [List.length_nil] at hn;omega⟩
  have hl:ds.length<=i:=List.drop_eq_nil_iff.1 hd;rw [mP];simp only [v5];rw [decide_eq_false (by omega),al,h2];by_cases c:a=2
  ·rw [if_pos c];exact⟨tr,rfl⟩
  ·rw [if_neg c];exact⟨[],rfl⟩
 | cons d rs ih=>
  intro i n a tr hc hd hi hn ht ha;obtain⟨n,rfl⟩:∃ n',n=n'+1:=⟨n - 1,by omega⟩
  obtain⟨hg,hd'⟩:=bT hd;have hl':i < ds.length:=(List.getElem?_eq_some_iff.1 hg).1;have hw:w64 ((i:Int)+1)=((i+1:Nat):Int):=by rw [aj (by omega) (by omega)];omega
  have hn':rs.length < n:=by simp only [List.length_cons] at hn;omega
  obtain⟨c1,c2,c3,c4⟩:=aFJ (hc d (List.mem_cons_self ..));rw [mP];simp only [v5];rw [decide_eq_true (by omega),ap,rx hg,ue,af,OJ,Fy,af,OM];have ih':=fun a' tr' ht ha=>ih (i+1) n a' tr' (fun d hd=>hc d (List.mem_cons_of_mem _ hd)) hd' (by omega) hn' ht ha;generalize hR:mP α (ds.map rD) (ds.length:Int) (ls.map rL) oi ol k1 k2 n=R at *;obtain⟨t,o,o2,e⟩:=axe (α:=α) c1 c2 (ls:=ls) (oi:=oi) (ol:=ol)
   (kA:=fun x64 x65=>be α x65 (gK (dH 1 24 tr [[DC.sl x64]]) (R 1 (w64 ((i:Int)+1)) (tr++[[DC.sl x64]]))) (gK (dH 1 24 tr [[DC.sl x64]]) (R a (w64 ((i:Int)+1)) (tr++[[DC.sl x64]]))))
   (kB:=fun x66 x67=>k1 (i:Int) x66 x67) (kC:=gK (dH 1 24 tr [[DC.sl ([]:ae)]]) (R 1 (w64 ((i:Int)+1)) (tr++[[DC.sl ([]:ae)]])))
   (kD:=fun x68 x69 x70 x71=>k1 (i:Int) x69 x70)
  rw [e];clear e;rw [me];cases hv:(vis d ls oi ol 5 d.pc).1 with
  | some m=>
   simp only;refine⟨[],?_⟩;rw [h1];by_cases c:o=true
   ·rw [if_pos c]
   ·rw [if_neg c]
  | none=>
   simp only;rw [hw];have hj:∀ b x y,be α b x y=if b=true then x else y:=fun b x y=>by rw [be,af,fu];exact oA
   rw [hj];by_cases c:(vis d ls oi ol 5 d.pc).2=true
   ·rw [if_pos c,if_pos c]
    by_cases c':o=true
    ·rw [if_pos ⟨c',c⟩,bO (al0 (by omega) _)]
     exact ih' 1 _ (by simp only [List.length_append,List.length_cons,List.length_nil];omega) (Or.inl rfl)
    ·rw [if_neg (fun h=>c' h.1),bO (al0 (by omega) _)]
     exact ih' 1 _ (by simp only [List.length_append,List.length_cons,List.length_nil];omega) (Or.inl rfl)
   ·rw [if_neg c,if_neg c,if_neg (fun h=>c h.2),bO (al0 (by omega) _)]
    exact ih' a _ (by simp only [List.length_append,List.length_cons,List.length_nil];omega) ha
theorem OY {ds:List Dm}(h:dms ds=0):ds.length<=8/\ds ≠ []/\∀ d ∈ ds,ckD d=0:=by
 unfold dms at h;by_cases c0:ds.length=0
 ·rw [if_pos c0] at h;exact absurd h (by decide)
 ·rw [if_neg c0] at h
  by_cases c8:8 < ds.length
  ·rw [if_pos c8] at h;exact absurd h (by decide)
  ·rw [if_neg c8] at h
   refine⟨by omega,fun hh=>c0 (by rw [hh];rfl),?_⟩;have key:∀ l:List Dm,dsE l=0->∀ d ∈ l,ckD d=0:=by
    intro l
    induction l with
    | nil=>intro _ d hd;cases hd
    | cons x xs ih=>
     intro hx d hd;unfold dsE at hx;by_cases cx:ckD x=0
     ·rw [if_pos cx] at hx
      rcases List.mem_cons.1 hd with rfl | hd
      ·exact cx
      ·exact ih hx d hd
     ·rw [if_neg cx] at hx;exact absurd hx cx
   exact key ds h
def ky (ds:List Dm)(ls:List L5)(oi ol:Int):Int:=match ds with
 | []=>12
 | d::r=>awk d r ls oi ol
theorem agP {ds:List Dm}{ls:List L5}{oi ol:Int}(h:ky ds ls oi ol=0):ds.length<=8/\(∀ d ∈ ds,ckD d=0)/\lsE ls=0/\ls.length<=40:=by
 cases ds with
 | nil=>exact absurd h (show ¬ (12:Int)=0 by decide)
 | cons d r=>
  have hd:=h;unfold ky awk at hd;simp only at hd;by_cases c:dms (d::r)=0
  ·rw [if_pos c] at hd
   obtain⟨a1,a2,a3⟩:=OY c;obtain⟨_,_,_,_,b1,b2,_⟩:=jA hd;exact⟨a1,a3,b2,b1⟩
  ·rw [if_neg c] at hd;exact absurd hd c
theorem azP {ds:List Dm}{ls:List L5}{oi ol:Int}{k:Int->ae->Int->Int->Int->Int->Option α} :
  ∃ tr,MX α (ds.map rD) (ls.map rL) oi ol k=if ky ds ls oi ol=0 then k (me ls oi ol ds 2 0).1 tr (me ls oi ol ds 2 0).2.1 (me ls oi ol ds 2 0).2.2.1 (me ls oi ol ds 2 0).2.2.2 0 else k 0 [] 0 0 0 (ky ds ls oi ol):=by
 rw [MX,af,acZ];cases ds with
 | nil=>
  refine⟨[],?_⟩;rw [B4,af,Pf,H2,af,PA];rfl
 | cons d r=>
  have key:∀ k':Int->Int->Option α,(∀ x y e,k' x e=k' y e)->B4 α ((d::r).map rD) (ls.map rL) oi ol k'=k' 0 (ky (d::r) ls oi ol):=by
   intro k' hk;have:k'=fun _ e=>k' 0 e:=funext fun x=>funext fun e=>hk x 0 e;rw [this];exact azu
  rw [key _ (fun _ _ _=>rfl),bo];by_cases c:ky (d::r) ls oi ol=0
  ·obtain⟨h1,h2,_⟩:=agP c
   have hf:(d::r).length < aE:=by have:=bz;omega
   obtain⟨tr,e⟩:=azS (α:=α) (ds:=d::r) (ls:=ls) (oi:=oi) (ol:=ol) h1 (k1:=fun x112 x113 x114=>k 0 [] x112 x113 x114 0)
    (k2:=fun x115 x116 x117 x118=>cK (x115 != 2) (k x115 [] 0 0 0 0) (k x115 x118 0 0 0 0)) (K:=fun a t i w s=>k a t i w s 0) (fun _ _ _=>rfl)
    (fun a i b tr=>arp) (d::r) 0 aE 2 [] h2 rfl (Nat.zero_le _) hf rfl (Or.inr rfl)
   refine⟨tr,?_⟩;rw [if_pos c,if_pos c,UC,af,af5,z5,af,NS,List.length_map];exact e
  ·exact⟨[],by rw [if_neg c,if_neg c]⟩
theorem oK {n lo hi:Int}{k:Bool->Option α}:lD α n lo hi k=k (decide (lo<=n/\n<=hi)):=by
 rw [lD,af,afb];exact Cc
theorem ayA {a b lo hi:Int}{k:Bool->Option α}:OF α a b lo hi k=k (decide ((lo<=a/\a<=hi)/\lo<=b/\b<=hi)):=by
 rw [OF,af,aio,oK,oK];exact Cc
theorem ayP {a b lo hi:Int}{k:Int->Option α}:ND α a b lo hi k=k (fJ a b lo hi):=by
 rw [ND,af,agN,ayA,cI,aK];unfold fJ;by_cases c:(lo<=a/\a<=hi)/\lo<=b/\b<=hi
 ·rw [if_pos c,if_pos c]
  by_cases c2:b < a
  ·rw [if_pos c2,if_pos c2]
  ·rw [if_neg c2,if_neg c2]
 ·rw [if_neg c,if_neg c]
abbrev D3:=Int × Int × Int
def nA (x:D3):Bool:=decide ((5000<=x.1/\x.1<=80000)/\(0<=x.2.1/\x.2.1<=80000)/\0<=x.2.2/\x.2.2<=1000000)
abbrev rT3 (x:D3):List DC:=[.v (.int .i64 x.1),.v (.int .i64 x.2.1),.v (.int .i64 x.2.2)]
abbrev rT2 (x:Int × Int):List DC:=[.v (.int .i64 x.1),.v (.int .i64 x.2)]
theorem vE {l:List D3}{i:Nat}{x:D3}(h:l[i]?=some x){f:Int->Int->Int->Option α}:dT (l.map rT3) (i:Int) [.int .i64,.int .i64,.int .i64] f=f x.1 x.2.1 x.2.2:=by
 refine (o5 (r:=rT3 x) ?_).trans rfl;rw [List.getElem?_map,h];rfl
theorem Rz {l:List (Int × Int)}{i:Nat}{x:Int × Int}(h:l[i]?=some x){f:Int->Int->Option α}:dT (l.map rT2) (i:Int) [.int .i64,.int .i64] f=f x.1 x.2:=by
 refine (o5 (r:=rT2 x) ?_).trans rfl;rw [List.getElem?_map,h];rfl
theorem ato {l:List D3}(hl:l.length<=100){k1 Y:Option α}{k2:Int->Bool->Option α}(h2:∀ x b,k2 x b=Y) :
  ∀ (rest:List D3) (i n:Nat),l.drop i=rest->i<=l.length->rest.length < n->qc α (l.map rT3) (l.length:Int) k1 k2 n (i:Int)=if rest.all nA=true then Y else k1:=by
 intro rest
 induction rest with
 | nil=>
  intro i n hd hi hn;obtain⟨n,rfl⟩:∃ n',n=n'+1:=⟨n - 1,by simp only [List.length_nil] at hn;omega⟩
  have hl:l.length<=i:=List.drop_eq_nil_iff.1 hd;rw [qc];simp only [ud];rw [decide_eq_false (by omega),al,h2];rfl
 | cons x rs ih=>
  intro i n hd hi hn;obtain⟨n,rfl⟩:∃ n',n=n'+1:=⟨n - 1,by omega⟩
  obtain⟨hg,hd'⟩:=bT hd;have hl':i < l.length:=(List.getElem?_eq_some_iff.1 hg).1;have hw:w64 ((i:Int)+1)=((i+1:Nat):Int):=by rw [aj (by omega) (by omega)];omega
  have hn':rs.length < n:=by simp only [List.length_cons] at hn;omega
  rw [qc];simp only [ud];rw [decide_eq_true (by omega),ap,vE hg,oK,cI,oK,cI,oK,cI,hw,ih (i+1) n hd' (by omega) hn'];simp only [List.all_cons,Bool.and_eq_true];by_cases c1:5000<=x.1/\x.1<=80000
  ·rw [if_pos c1]
   by_cases c2:0<=x.2.1/\x.2.1<=80000
   ·rw [if_pos c2]
    by_cases c3:0<=x.2.2/\x.2.2<=1000000
    ·rw [if_pos c3]
     by_cases c4:rs.all nA=true
     ·rw [if_pos c4,if_pos ⟨decide_eq_true ⟨c1,c2,c3⟩,c4⟩]
     ·rw [if_neg c4,if_neg (fun h=>c4 h.2)]
    ·rw [if_neg c3,if_neg (fun h=>c3 (of_decide_eq_true h.1).2.2)]
   ·rw [if_neg c2,if_neg (fun h=>c2 (of_decide_eq_true h.1).2.1)]
  ·rw [if_neg c1,if_neg (fun h=>c1 (of_decide_eq_true h.1).1)]
def grL:List (Int × Int)->Int
 | []=>0
 | r::rs=>if fJ r.1 r.2 0 1000000=0 then grL rs else fJ r.1 r.2 0 1000000
theorem atx {l:List (Int × Int)}(hl:l.length<=100){k1:Int->Option α}{Y:Option α}{k2:Int->Bool->Option α}(h2:∀ x b,k2 x b=Y) :
  ∀ (rest:List (Int × Int)) (i n:Nat),l.drop i=rest->i<=l.length->rest.length < n->qh α (l.map rT2) (l.length:Int) k1 k2 n (i:Int)=if grL rest=0 then Y else k1 (grL rest):=by
 intro rest
 induction rest with
 | nil=>
  intro i n hd hi hn;obtain⟨n,rfl⟩:∃ n',n=n'+1:=⟨n - 1,by simp only [List.length_nil] at hn;omega⟩
  have hl:l.length<=i:=List.drop_eq_nil_iff.1 hd;rw [qh];simp only [uu];rw [decide_eq_false (by omega),al,h2];rfl
 | cons x rs ih=>
  intro i n hd hi hn;obtain⟨n,rfl⟩:∃ n',n=n'+1:=⟨n - 1,by omega⟩
  obtain⟨hg,hd'⟩:=bT hd;have hl':i < l.length:=(List.getElem?_eq_some_iff.1 hg).1;have hw:w64 ((i:Int)+1)=((i+1:Nat):Int):=by rw [aj (by omega) (by omega)];omega
  have hn':rs.length < n:=by simp only [List.length_cons] at hn;omega
  rw [qh];simp only [uu];rw [decide_eq_true (by omega),ap,Rz hg,ayP,bo,hw,ih (i+1) n hd' (by omega) hn',grL];by_cases c:fJ x.1 x.2 0 1000000=0
  ·rw [if_pos c,if_pos c]
  ·rw [if_neg c,if_neg c,if_neg c]
def zb:List D3->List (Int × Int)->List L5
 | x::xs,r::rs=>(x.1,x.1,r.1,r.2,x.2.1)::zb xs rs
 | _,_=>[]
theorem ap5 {A:List L5}{l:L5}(h:A.length<=100):dH 5 40 (A.map rL) [rL l]=true:=by
 refine decide_eq_true ⟨rfl,?_,?_⟩
 ·simp only [List.length_map,List.length_cons,List.length_nil];omega
 ·simp only [List.length_map,List.length_cons,List.length_nil];omega
theorem vw {A:List L5}{l:L5}:A.map rL++[rL l]=(A++[l]).map rL:=by rw [List.map_append];rfl
theorem anS {des:List D3}{gr:List (Int × Int)}(hd:des.length<=40)(hle:gr.length<=des.length){Y:List L5->Option α}{k1:Int->Bool->ae->Option α}(h1:∀ x b A,A.length<=100->k1 x b (A.map rL)=Y A) :
  ∀ (rest:List (Int × Int)) (i n:Nat) (A:List L5),gr.drop i=rest->i<=gr.length->rest.length < n->A.length=i ->
  m8 α (gr.map rT2) (gr.length:Int) (des.map rT3) k1 n (i:Int) (A.map rL)=Y (A++zb (des.drop i) rest):=by
 intro rest
 induction rest with
 | nil=>
  intro i n A hdr hi hn hA;obtain⟨n,rfl⟩:∃ n',n=n'+1:=⟨n - 1,by simp only [List.length_nil] at hn;omega⟩
  have hl:gr.length<=i:=List.drop_eq_nil_iff.1 hdr;rw [m8];simp only [tn];rw [decide_eq_false (by omega),al,h1 _ _ _ (by omega)];have:zb (des.drop i) []=[]:=by cases des.drop i <;> rfl
  rw [this,List.append_nil]
 | cons x rs ih=>
  intro i n A hdr hi hn hA;obtain⟨n,rfl⟩:∃ n',n=n'+1:=⟨n - 1,by omega⟩
  obtain⟨hg,hd'⟩:=bT hdr;have hl':i < gr.length:=(List.getElem?_eq_some_iff.1 hg).1;have hw:w64 ((i:Int)+1)=((i+1:Nat):Int):=by rw [aj (by omega) (by omega)];omega
  have hn':rs.length < n:=by simp only [List.length_cons] at hn;omega
  obtain⟨y,hy⟩:∃ y,des[i]?=some y:=⟨des[i]'(by omega),List.getElem?_eq_getElem (by omega)⟩
  have hdd:des.drop i=y::des.drop (i+1):=by
   obtain⟨h1,h2⟩:=List.getElem?_eq_some_iff.1 hy;rw [List.drop_eq_getElem_cons h1,h2]
  rw [m8];simp only [tn];rw [decide_eq_true (by omega),ap,Rz hg,vE hy];change gK (dH 5 40 (A.map rL) [rL (y.1,y.1,x.1,x.2,y.2.1)]) (m8 α _ _ _ k1 n _ (A.map rL++[rL (y.1,y.1,x.1,x.2,y.2.1)]))=_;rw [bO (ap5 (by omega)),vw,hw,ih (i+1) n _ hd' (by omega) hn' (by rw [List.length_append,List.length_cons,List.length_nil];omega),hdd];congr 1;rw [List.append_assoc];rfl
def byE (er:Int)(x:D3):Int:=(x.2.2*er+999) / 1000
def bxR (er:Int)(x:D3):L5:=(x.1,x.1,pos (x.2.2 - byE er x),x.2.2+byE er x,x.2.1)
def vJ (er:Int)(x:D3):Bool:=decide (x.2.2+byE er x<=1000000)
theorem acj {er:Int}{x:D3}(h1:0<=er)(h2:er<=1000)(hx:nA x=true):0<=byE er x/\byE er x<=1000000/\upI (w64 (x.2.2*er)) 1000=byE er x:=by
 obtain⟨_,_,g1,g2⟩:=of_decide_eq_true hx;have m:=ld g1 g2 h1 h2;rw [aj (n:=x.2.2*er) (by omega) (by omega),axx (by omega) (by omega) (by decide) (by decide)];unfold byE;omega
theorem an3 {l:List D3}(hl:l.length<=100){k1 Y:Option α}{k2:Int->Bool->Option α}(h2:∀ x b,k2 x b=Y) :
  ∀ (rest:List D3) (i n:Nat),l.drop i=rest->i<=l.length->rest.length < n->rest.all nA=true->rg α (l.map rT3) (l.length:Int) k1 k2 n (i:Int)=Y:=by
 intro rest
 induction rest with
 | nil=>
  intro i n hd hi hn _;obtain⟨n,rfl⟩:∃ n',n=n'+1:=⟨n - 1,by simp only [List.length_nil] at hn;omega⟩
  have hl:l.length<=i:=List.drop_eq_nil_iff.1 hd;rw [rg];simp only [wG];rw [decide_eq_false (by omega),al,h2]
 | cons x rs ih=>
  intro i n hd hi hn hb;obtain⟨n,rfl⟩:∃ n',n=n'+1:=⟨n - 1,by omega⟩
  obtain⟨hg,hd'⟩:=bT hd;have hl':i < l.length:=(List.getElem?_eq_some_iff.1 hg).1;have hw:w64 ((i:Int)+1)=((i+1:Nat):Int):=by rw [aj (by omega) (by omega)];omega
  have hn':rs.length < n:=by simp only [List.length_cons] at hn;omega
  simp only [List.all_cons,Bool.and_eq_true] at hb;obtain⟨g1,g2,g3⟩:=of_decide_eq_true hb.1;rw [rg];simp only [wG];rw [decide_eq_true (by omega),ap,vE hg,ro,af,Iv,pY,cI,if_pos g1,y8,af,KL,pY,cI,if_pos g2,CM,af,Pt,pY,cI,if_pos g3,hw];exact ih (i+1) n hd' (by omega) hn' hb.2
theorem arD {l:List D3}{er:Int}(h0:0<=er)(h1:er<=1000)(hl:l.length<=40){k1:Option α}{Y:List L5->Option α}{k2:Int->Bool->ae->Option α}(h2:∀ x b A,k2 x b (A.map rL)=Y A) :
  ∀ (rest:List D3) (i n:Nat) (A:List L5),l.drop i=rest->i<=l.length->rest.length < n->A.length=i->rest.all nA=true ->
  mQ α er (l.map rT3) (l.length:Int) k1 k2 n (i:Int) (A.map rL)=if rest.all (vJ er)=true then Y (A++rest.map (bxR er)) else k1:=by
 intro rest
 induction rest with
 | nil=>
  intro i n A hd hi hn hA _;obtain⟨n,rfl⟩:∃ n',n=n'+1:=⟨n - 1,by simp only [List.length_nil] at hn;omega⟩
  have hl:l.length<=i:=List.drop_eq_nil_iff.1 hd;rw [mQ];simp only [wq];rw [decide_eq_false (by omega),al,h2,List.map_nil,List.append_nil];rfl
 | cons x rs ih=>
  intro i n A hd hi hn hA hb;obtain⟨n,rfl⟩:∃ n',n=n'+1:=⟨n - 1,by omega⟩
  obtain⟨hg,hd'⟩:=bT hd;have hl':i < l.length:=(List.getElem?_eq_some_iff.1 hg).1;have hw:w64 ((i:Int)+1)=((i+1:Nat):Int):=by rw [aj (by omega) (by omega)];omega
  have hn':rs.length < n:=by simp only [List.length_cons] at hn;omega
  simp only [List.all_cons,Bool.and_eq_true] at hb;obtain⟨_,_,g3⟩:=of_decide_eq_true hb.1;obtain⟨b1,b2,b3⟩:=acj h0 h1 hb.1;rw [mQ];simp only [wq];rw [decide_eq_true (by omega),ap,vE hg,wm (by decide),b3,aj (n:=x.2.2+byE er x) (by omega) (by omega),aj (n:=x.2.2 - byE er x) (by omega) (by omega),aK];simp only [List.all_cons,Bool.and_eq_true];by_cases c:1000000 < x.2.2+byE er x
  ·rw [if_pos c,if_neg (fun h=>by have:=of_decide_eq_true h.1;omega)]
  ·rw [if_neg c]
   change gK (dH 5 40 (A.map rL) [rL (bxR er x)]) (mQ α _ _ _ k1 k2 n _ (A.map rL++[rL (bxR er x)]))=_;rw [bO (ap5 (by omega)),vw,hw,ih (i+1) n _ hd' (by omega) hn' (by rw [List.length_append,List.length_cons,List.length_nil];omega) hb.2];by_cases c2:rs.all (vJ er)=true
   ·rw [if_pos c2,if_pos ⟨decide_eq_true (by omega),c2⟩,List.append_assoc];rfl
   ·rw [if_neg c2,if_neg (fun h=>c2 h.2)]
def hF (des:List D3)(gr:List (Int × Int))(er:Int):Int × List L5:=
 if 40 < des.length then (8,[]) else if des.all nA=true then
  if des.length < gr.length then (12,[]) else if grL gr=0 then
   if 0<=er/\er<=1000 then
    if (des.drop gr.length).all (vJ er)=true then (0,zb des gr++(des.drop gr.length).map (bxR er)) else (8,[])
   else (2,[])
  else (grL gr,[])
 else (2,[])
theorem ail {β:Type}{p:β->Bool}{l:List β}(h:l.all p=true)(n:Nat):(l.drop n).all p=true:=by
 rw [List.all_eq_true] at h ⊢;exact fun x hx=>h x (List.mem_of_mem_drop hx)
theorem azs {D:List D3}{er:Int}(h0:0<=er)(h1:er<=1000)(hl:D.length<=40)(hb:D.all nA=true){k:ae->Int->Option α}:Nb α (D.map rT3) er k=if D.all (vJ er)=true then k ((D.map (bxR er)).map rL) 0 else k [] 8:=by
 have hf:=bz;rw [Nb,af,agt,List.length_map,aK,if_neg (by omega),A9,af,OB];refine (an3 (by omega) (fun _ _=>rfl) D 0 aE rfl (Nat.zero_le _) (by omega) hb).trans ?_;rw [pY,cI,if_pos ⟨h0,h1⟩,Ak,af,Lp];exact arD h0 h1 hl (Y:=fun A=>k (A.map rL) 0) (fun _ _ _=>rfl) D 0 aE [] rfl (Nat.zero_le _) (by omega) rfl hb
theorem ajJ {des:List D3}{gr:List (Int × Int)}{er:Int}(hg:gr.length<=100){k:ae->Int->Option α}:Hg α (des.map rT3) (gr.map rT2) er k=k ((hF des gr er).2.map rL) (hF des gr er).1:=by
 have hf:=bz;rw [Hg,af,ajV,List.length_map,List.length_map,aK];unfold hF;by_cases c0:40 < des.length
 ·rw [if_pos (by omega),if_pos c0];rfl
 ·rw [if_neg (by omega),if_neg c0,AJ,af,Mm]
  refine (ato (by omega) (fun _ _=>rfl) des 0 aE rfl (Nat.zero_le _) (by omega)).trans ?_;by_cases c1:des.all nA=true
  ·rw [if_pos c1,if_pos c1,aK]
   by_cases c2:des.length < gr.length
   ·rw [if_pos (by omega),if_pos c2];rfl
   ·rw [if_neg (by omega),if_neg c2,Ap,af,M7]
    refine (atx hg (fun _ _=>rfl) gr 0 aE rfl (Nat.zero_le _) (by omega)).trans ?_;by_cases c3:grL gr=0
    ·rw [if_pos c3,if_pos c3,oK,cI]
     by_cases c4:0<=er/\er<=1000
     ·rw [if_pos c4,if_pos c4,z8,af,NH]
      refine (anS (des:=des) (gr:=gr) (by omega) (by omega) (Y:=fun A=>if (des.drop gr.length).all (vJ er)=true then k ((A++(des.drop gr.length).map (bxR er)).map rL) 0 else k [] 8) (k1:=fun _ _ x62=>_) (fun x b A hA=>?_) gr 0 aE [] rfl (Nat.zero_le _) (by omega) rfl).trans ?_
      ·have e1:List.drop (Int.toNat (gr.length:Int)) (List.take (Int.toNat (des.length:Int)) (des.map rT3))=(des.drop gr.length).map rT3:=by
        rw [Int.toNat_natCast,Int.toNat_natCast,List.take_of_length_le (by rw [List.length_map];exact Nat.le_refl _),List.map_drop]
       rw [e1,bO (decide_eq_true ⟨by omega,by omega,by omega,Bw (enc:=rT3) (n:=3) (fun _=>rfl) des⟩),azs c4.1 c4.2 (by rw [List.length_drop];omega) (ail c1 _)];by_cases c5:(des.drop gr.length).all (vJ er)=true
       ·rw [if_pos c5,if_pos c5,List.map_append]
        show cK false _ (gK _ _)=_;rw [al,bO (uL (enc:=rL) (fun _=>rfl) (by rw [List.length_map,List.length_map,List.length_drop];omega) (by rw [List.length_map,List.length_map,List.length_drop];omega))]
       ·rw [if_neg c5,if_neg c5];rfl
      ·rw [List.nil_append,List.drop_zero]
       by_cases c5:(des.drop gr.length).all (vJ er)=true
       ·rw [if_pos c5,if_pos c5]
       ·rw [if_neg c5,if_neg c5];rfl
     ·rw [if_neg c4,if_neg c4];rfl
    ·rw [if_neg c3,if_neg c3];rfl
  ·rw [if_neg c1,if_neg c1];rfl
def Ql:List D3->List L5->Prop
 | [],[]=>True
 | x::xs,l::ls=>(l.1=x.1/\l.2.1=x.1/\l.2.2.2.2=x.2.1/\0<=l.2.2.1/\l.2.2.1<=l.2.2.2.1/\l.2.2.2.1<=1000000)/\Ql xs ls
 | _,_=>False
theorem aw0 {er:Int}(h0:0<=er)(h1:er<=1000):∀ D:List D3,D.all nA=true->D.all (vJ er)=true->Ql D (D.map (bxR er)):=by
 intro D
 induction D with
 | nil=>intro _ _;exact trivial
 | cons x xs ih=>
  intro h2 h3;simp only [List.all_cons,Bool.and_eq_true] at h2 h3;obtain⟨b1,b2,_⟩:=acj h0 h1 h2.1;obtain⟨_,_,g1,g2⟩:=of_decide_eq_true h2.1;have g3:=of_decide_eq_true h3.1;refine⟨⟨rfl,rfl,rfl,?_⟩,ih h2.2 h3.2⟩;show 0<=pos (x.2.2 - byE er x)/\pos (x.2.2 - byE er x)<=x.2.2+byE er x/\x.2.2+byE er x<=1000000;unfold pos;split <;> omega
theorem aw6 {er:Int}(h0:0<=er)(h1:er<=1000):∀ (D:List D3) (gr:List (Int × Int)),D.all nA=true->gr.length<=D.length->grL gr=0->(D.drop gr.length).all (vJ er)=true->Ql D (zb D gr++(D.drop gr.length).map (bxR er)):=by
 intro D
 induction D with
 | nil=>
  intro gr _ hl _ _;cases gr with
  | nil=>exact trivial
  | cons r rs=>simp at hl
 | cons x xs ih=>
  intro gr hd hl hg hb;cases gr with
  | nil=>exact aw0 h0 h1 (x::xs) hd hb
  | cons r rs=>
   have hd2:=hd;simp only [List.all_cons,Bool.and_eq_true] at hd2;unfold grL at hg;by_cases c:fJ r.1 r.2 0 1000000=0
   ·rw [if_pos c] at hg
    have hr:=acp c;exact⟨⟨rfl,rfl,rfl,hr.1,hr.2.1,hr.2.2⟩,ih rs hd2.2 (by simpa using hl) hg (by simpa using hb)⟩
   ·rw [if_neg c] at hg;exact absurd hg c
theorem awI {des:List D3}{gr:List (Int × Int)}{er:Int}(h:(hF des gr er).1=0):des.length<=40/\des.all nA=true/\(0<=er/\er<=1000)/\Ql des (hF des gr er).2:=by
 unfold hF at *;by_cases c0:40 < des.length
 ·rw [if_pos c0] at h;exact absurd h (show ¬ (8:Int)=0 by decide)
 ·rw [if_neg c0] at h ⊢
  by_cases c1:des.all nA=true
  ·rw [if_pos c1] at h ⊢
   by_cases c2:des.length < gr.length
   ·rw [if_pos c2] at h;exact absurd h (show ¬ (12:Int)=0 by decide)
   ·rw [if_neg c2] at h ⊢
    by_cases c3:grL gr=0
    ·rw [if_pos c3] at h ⊢
     by_cases c4:0<=er/\er<=1000
     ·rw [if_pos c4] at h ⊢
      by_cases c5:(des.drop gr.length).all (vJ er)=true
      ·rw [if_pos c5]
       exact⟨by omega,c1,c4,aw6 c4.1 c4.2 des gr c1 (by omega) c3 c5⟩
      ·rw [if_neg c5] at h;exact absurd h (show ¬ (8:Int)=0 by decide)
     ·rw [if_neg c4] at h;exact absurd h (show ¬ (2:Int)=0 by decide)
    ·rw [if_neg c3] at h;exact absurd h c3
  ·rw [if_neg c1] at h;exact absurd h (show ¬ (2:Int)=0 by decide)
theorem aiI {des:List D3}{gr:List (Int × Int)}{ds:List Dm}(h1:des.length<=100)(h2:gr.length<=100)(h3:ds.length<=100){k:ae->ae->ae->Option α}:yX α (des.map rT3) (gr.map rT2) (ds.map rD) k=k (des.map rT3) (gr.map rT2) (ds.map rD):=by
 rw [yX,af,ag9,Eu,af,PW,bO (uL (enc:=rT3) (fun _=>rfl) (by simp only [List.length_nil];omega) (by simp only [List.length_nil];omega)),Zb,af,alu,bO (uL (enc:=rT2) (fun _=>rfl) (by simp only [List.length_nil];omega) (by simp only [List.length_nil];omega)),bO (uL (enc:=rD) (fun _=>rfl) (by simp only [List.length_nil];omega) (by simp only [List.length_nil];omega)),List.nil_append,List.nil_append,List.nil_append]
theorem av0 {n lo hi:Int}:∃ b:Bool,∀ k:Bool->Option α,cF α n lo hi k=k b:=by
 by_cases c:lo<=n
 ·exact⟨decide (n<=hi),fun k=>by rw [cF,af,SO,decide_eq_true c,ap]⟩
 ·exact⟨false,fun k=>by rw [cF,af,SO,decide_eq_false c,al]⟩
theorem agr {b:Bool}{f g:(Bool->Option α)->Option α}(hf:∃ b',∀ k,f k=k b')(hg:∃ b',∀ k,g k=k b'):∃ b',∀ k:Bool->Option α,cK b (f k) (g k)=k b':=by
 cases b with
 | true=>exact hf
 | false=>exact hg
theorem Ik {n lo hi:Int}{f:Bool->(Bool->Option α)->Option α}(hf:∀ b,∃ b',∀ k,f b k=k b'):∃ b',∀ k:Bool->Option α,cF α n lo hi (fun x=>f x k)=k b':=by
 obtain⟨b,hb⟩:=av0 (α:=α) (n:=n) (lo:=lo) (hi:=hi);obtain⟨b',hb'⟩:=hf b;exact⟨b',fun k=>by rw [hb,hb']⟩
theorem aH6 {a b c d:Int}:∃ b':Bool,∀ k:Bool->Option α,ym α a b c d k=k b':=by
 rw [ym,af];unfold Xz;have h3:∃ b',∀ k:Bool->Option α,cF α a 0 9999 (fun x53=>cK x53 (cF α b (w64 (a+200)) 9999 (fun x54=>k x54)) (k false))=k b':=
  Ik (f:=fun x53 k=>cK x53 (cF α b (w64 (a+200)) 9999 (fun x54=>k x54)) (k false)) fun x53=>agr (f:=fun k=>cF α b (w64 (a+200)) 9999 (fun x54=>k x54)) (g:=fun k=>k false) av0 ⟨false,fun _=>rfl⟩
 exact Ik (f:=fun x51 k=>cK x51 (cF α d (w64 (c+200)) 200000 (fun x52=>cK x52 (k true) (cF α a 0 9999 (fun x53=>cK x53 (cF α b (w64 (a+200)) 9999 (fun x54=>k x54)) (k false))))) (cF α a 0 9999 (fun x53=>cK x53 (cF α b (w64 (a+200)) 9999 (fun x54=>k x54)) (k false)))) fun x51=>
  agr (f:=fun k=>cF α d (w64 (c+200)) 200000 (fun x52=>cK x52 (k true) (cF α a 0 9999 (fun x53=>cK x53 (cF α b (w64 (a+200)) 9999 (fun x54=>k x54)) (k false))))) (g:=fun k=>cF α a 0 9999 (fun x53=>cK x53 (cF α b (w64 (a+200)) 9999 (fun x54=>k x54)) (k false)))
   (Ik (f:=fun x52 k=>cK x52 (k true) (cF α a 0 9999 (fun x53=>cK x53 (cF α b (w64 (a+200)) 9999 (fun x54=>k x54)) (k false)))) fun x52=>agr (f:=fun k=>k true) ⟨true,fun _=>rfl⟩ h3) h3
theorem aBC {ds:List Dm}(hl:ds.length<=100){k1 Y:Option α}{k2:Int->Bool->Option α}(h2:∀ x b,k2 x b=Y) :
  ∀ (rest:List Dm) (i n:Nat),ds.drop i=rest->i<=ds.length->rest.length < n->sp α (ds.map rD) k1 k2 n (i:Int)=k1\/sp α (ds.map rD) k1 k2 n (i:Int)=Y:=by
 intro rest
 induction rest with
 | nil=>
  intro i n hd hi hn;obtain⟨n,rfl⟩:∃ n',n=n'+1:=⟨n - 1,by simp only [List.length_nil] at hn;omega⟩
  have hl:ds.length<=i:=List.drop_eq_nil_iff.1 hd;right;rw [sp];simp only [Dr,List.length_map];rw [decide_eq_false (by omega),al,h2]
 | cons d rs ih=>
  intro i n hd hi hn;obtain⟨n,rfl⟩:∃ n',n=n'+1:=⟨n - 1,by omega⟩
  obtain⟨hg,hd'⟩:=bT hd;have hl':i < ds.length:=(List.getElem?_eq_some_iff.1 hg).1;have hw:w64 ((i:Int)+1)=((i+1:Nat):Int):=by rw [aj (by omega) (by omega)];omega
  have hn':rs.length < n:=by simp only [List.length_cons] at hn;omega
  obtain⟨b,hb⟩:=aH6 (α:=α) (a:=d.s1) (b:=d.s2) (c:=d.w1) (d:=d.w2);rw [sp];simp only [Dr,List.length_map];rw [decide_eq_true (by omega),ap,rx hg,hb];cases b with
  | true=>left;rfl
  | false=>
   rw [al,hw];exact ih (i+1) n hd' (by omega) hn'
theorem aqo {des:List D3}{gr:List (Int × Int)}{ds:List Dm}{k:Bool->Option α}:∃ b:Bool,(b=true->des.length<=42/\gr.length<=44/\ds.length<=3)/\afg α (des.map rT3) (gr.map rT2) (ds.map rD) k=k b:=by
 have hf:=bz;have go:ds.length<=3->(ng α (ds.map rD) (k false) (fun _ _=>k true) 0=k false\/ng α (ds.map rD) (k false) (fun _ _=>k true) 0=k true):=by
  intro h;rw [ng,af,SH];exact aBC (by omega) (fun _ _=>rfl) ds 0 aE rfl (Nat.zero_le _) (by omega)
 rw [afg,af,avS,Kx,af,YO,YE,af,af0];simp only [List.length_map,aK];have fin:∀ x:Option α,(des.length<=42/\gr.length<=44)->(x=if (ds.length:Int)<=3 then (if 3 < (des.length:Int) then (if (des.length:Int)<=40 then k false else if 2 < (ds.length:Int) then k false else ng α (ds.map rD) (k false) (fun _ _=>k true) 0) else if 2 < (ds.length:Int) then k false else ng α (ds.map rD) (k false) (fun _ _=>k true) 0) else k false) ->
   ∃ b:Bool,(b=true->des.length<=42/\gr.length<=44/\ds.length<=3)/\x=k b:=by
  intro x hx e;by_cases c:(ds.length:Int)<=3
  ·rw [if_pos c] at e
   have hh:x=k false\/x=ng α (ds.map rD) (k false) (fun _ _=>k true) 0:=by
    rw [e];split
    ·split
     ·exact Or.inl rfl
     ·split
      ·exact Or.inl rfl
      ·exact Or.inr rfl
    ·split
     ·exact Or.inl rfl
     ·exact Or.inr rfl
   rcases hh with hh | hh
   ·exact⟨false,fun h=>(by cases h),hh⟩
   ·rcases go (by omega) with g | g
    ·exact⟨false,fun h=>(by cases h),hh.trans g⟩
    ·exact⟨true,fun _=>⟨hx.1,hx.2,by omega⟩,hh.trans g⟩
  ·rw [if_neg c] at e
   exact⟨false,fun h=>(by cases h),e⟩
 have no:∀ x:Option α,∃ b:Bool,(b=true->des.length<=42/\gr.length<=44/\ds.length<=3)/\cK (!false) (k false) x=k b:=fun x=>⟨false,fun h=>(by cases h),rfl⟩
 simp only [cI];by_cases d6:(des.length:Int)<=6
 ·rw [if_pos d6]
  by_cases g:(gr.length:Int)<=44
  ·rw [if_pos g];exact fin _ ⟨by omega,by omega⟩ rfl
  ·rw [if_neg g];exact no _
 ·rw [if_neg d6]
  by_cases d40:40 < (des.length:Int)
  ·rw [if_pos d40]
   by_cases d42:(des.length:Int)<=42
   ·rw [if_pos d42]
    by_cases g:(gr.length:Int)<=44
    ·rw [if_pos g];exact fin _ ⟨by omega,by omega⟩ rfl
    ·rw [if_neg g];exact no _
   ·rw [if_neg d42];exact no _
  ·rw [if_neg d40];exact no _
end Go.AM.K
