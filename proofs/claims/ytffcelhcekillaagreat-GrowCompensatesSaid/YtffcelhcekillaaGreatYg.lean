/- Texts of one kind, put together. -/
import Derived.Test.YtffcelhcekillaaGreatYf
import Derived.Test.YtffcelhcekillaaGreatYd
import Derived.Test.YtffcelhcekillaaGreatRl
namespace Go.AM.K
set_option linter.unusedVariables false
set_option linter.unusedSimpArgs false
variable {α:Type}
theorem ie {a b:Int}(h1:bdI a)(h2:bdI b){k:Int->Option α}:fB α a b k=k (dA a b):=by
 unfold bdI at h1 h2;rw [fB,af,V4,aj (by omega) (by omega),Mb.f91_eq (by decide) (by decide) (by omega) (by omega)];rfl
theorem J4 {a b:Int}(h1:bdI a)(h2:bdI b){k:Bool->Option α}:oY α a b k=k (decide (hvP a b)):=by
 unfold bdI at h1 h2;rw [oY,af,VT,aj (by omega) (by omega)];rfl
theorem IK {k:Option α}:oe α k=k:=by rw [oe,af,ST]
theorem Kd {x:Pc}(h:x.bd){k:Bool->Bool->Option α}:pg α x.w1 x.w2 x.s1 x.s2 k=k (decide (chE x=1)) (decide (chE x ≠ 0)):=by
 obtain⟨h1,h2,h3,h4⟩:=h;rw [pg,af,Tw,vy,af,F1,J4 h1 h2,J4 h3 h4];unfold bdI at h1 h2 h3 h4;rw [aj (n:=x.s2 - x.s1) (by omega) (by omega),aj (n:=x.w2 - x.w1) (by omega) (by omega)];have fin:∀ c:Prop,[Decidable c]->(if hvP x.s1 x.s2 then (2:Int) else 0)=chE x->oY α x.s1 x.s2 (fun x14=>k false x14)=k (decide (chE x=1)) (decide (chE x ≠ 0)):=by
  intro c _ e;rw [J4 (show bdI x.s1 by unfold bdI;omega) (show bdI x.s2 by unfold bdI;omega),<- e];by_cases c:hvP x.s1 x.s2
  ·rw [if_pos c,decide_eq_true c];rfl
  ·rw [if_neg c,decide_eq_false c];rfl
 by_cases c1:hvP x.w1 x.w2
 ·rw [decide_eq_true c1,ap,aK]
  by_cases c3:x.s2 - x.s1<=x.w2 - x.w1
  ·have e:chE x=1:=by unfold chE;rw [if_pos ⟨c1,Or.inr c3⟩]
   rw [if_pos c3,e];rfl
  ·rw [if_neg c3,cI]
   by_cases c2:hvP x.s1 x.s2
   ·rw [if_pos c2]
    exact fin True (by unfold chE;exact (if_neg (fun h=>h.2.elim (fun g=>g c2) c3)).symm)
   ·have e:chE x=1:=by unfold chE;rw [if_pos ⟨c1,Or.inl c2⟩]
    rw [if_neg c2,e];rfl
 ·rw [decide_eq_false c1,al]
  exact fin True (by unfold chE;exact (if_neg (fun h=>c1 h.1)).symm)
theorem Tc {x:Pc}(h:x.bd){c:Int}{k:Int->Int->Int->Int->Option α}:gC α x.w1 x.w2 x.s1 x.s2 (decide (c=1)) k=k (x.cut c).1.w2 (x.cut c).1.s2 (x.cut c).2.w1 (x.cut c).2.s1:=by
 obtain⟨h1,h2,h3,h4⟩:=h;rw [gC,af,Qc,vn,af,Fi,aK,ie h1 h2,ie h1 h2,ie h3 h4,ie h3 h4];unfold Pc.cut;by_cases hc:c=1
 ·rw [if_pos hc,if_pos hc]
 ·rw [if_neg hc,if_neg hc]
def Pc.rt (x:Pc):Prop:=(1000<=x.w1/\x.w1<=x.w2/\x.w2<=200000)/\0<=x.s1/\x.s1<=x.s2/\x.s2<=9999
theorem akp {x:Pc}(h:x.rt):x.bd:=by
 unfold Pc.rt at h;unfold Pc.bd bdI;omega
theorem aiJ {x:Pc}(h:x.rt)(c:Int):(x.cut c).1.rt/\(x.cut c).2.rt:=by
 unfold Pc.rt at h;have m1:x.w1<=dA x.w1 x.w2/\dA x.w1 x.w2<=x.w2:=by unfold dA;omega
 have m2:x.s1<=dA x.s1 x.s2/\dA x.s1 x.s2<=x.s2:=by unfold dA;omega
 unfold Pc.cut;by_cases hc:c=1
 ·rw [if_pos hc]
  unfold Pc.rt;simp only;omega
 ·rw [if_neg hc]
  unfold Pc.rt;simp only;omega
theorem azC {x:Pc}(h:x.rt):x.mid.rt:=by
 unfold Pc.rt at h;have m1:x.w1<=dA x.w1 x.w2/\dA x.w1 x.w2<=x.w2:=by unfold dA;omega
 have m2:x.s1<=dA x.s1 x.s2/\dA x.s1 x.s2<=x.s2:=by unfold dA;omega
 show (1000<=dA x.w1 x.w2/\dA x.w1 x.w2<=dA x.w1 x.w2/\dA x.w1 x.w2<=200000)/\0<=dA x.s1 x.s2/\dA x.s1 x.s2<=dA x.s1 x.s2/\dA x.s1 x.s2<=9999;omega
theorem ajk {lo hi a b:Int}(h1:a<=lo)(h2:lo<=hi)(h3:hi<=b):fJ lo hi a b=0:=by
 unfold fJ;rw [if_pos (by omega),if_neg (by omega)]
theorem avy {d:Dm}{ls:List L5}{oi ol:Int}(h:ckA (j0 d ls oi ol)=0){x:Pc}(hx:x.rt):ckA (j0 (x.dm d) ls oi ol)=0:=by
 obtain⟨h1,h2,h3,h4,h5,h6,h7,h8⟩:=jA h;obtain⟨⟨a1,a2,a3⟩,a4,a5,a6⟩:=hx;have e1:fJ x.s1 x.s2 0 9999=0:=ajk a4 a5 a6;have e2:fJ x.w1 x.w2 1000 200000=0:=ajk a1 a2 a3;show ckA (⟨d.ix,x.s1,x.s2,d.pol,x.w1,x.w2,ls,oi,ol⟩:Ask)=0;have h1':5000<=d.ix/\d.ix<=80000:=h1;have h3':0<=d.pol/\d.pol<=1:=h3;have h5':ls.length<=40:=h5;have h6':lsE ls=0:=h6;have h7':5000<=oi/\oi<=80000:=h7;have h8':0<=ol/\ol<=80000:=h8;unfold ckA;dsimp only;rw [if_pos h1',if_pos e1,if_pos h3',if_pos e2,if_neg (by omega),if_pos h6',if_pos h7',if_pos h8']
abbrev DVK (α:Type):=ae->Bool->Int->Int->Int->Bool->Option α
abbrev ata:Type 1:=(α:Type)->ae->Bool->Int->Int->Int->Bool->ae->ae->Int->Int->Int->Int->Int->Int->Int->Int->DVK α->Option α
abbrev DJ0:Type 1:=(α:Type)->Int->Bool->(Bool->Option α)->Option α
abbrev DJ1:Type 1:=(α:Type)->Bool->Option α->Option α->Option α
noncomputable def G1 (J0:DJ0)(J1:DJ1)(g:ata):ata:=fun α x1 x2 x3 x4 x5 x6 x7 x8 x9 x10 x11 x12 x13 x14 x15 x16 k1=>
 cK x2
  (k1 x1 x2 x3 x4 x5 x6)
  (dT x7 x11 [.int .i64,.int .i64,.int .i64,.int .i64,.int .i64,.int .i64,.int .i64,.int .i64,.int .i64]
   (fun (x17:Int) (x18:Int) (x19:Int) (x20:Int) (x21:Int) (x22:Int) (x23:Int) (x24:Int) (x25:Int)=>gG α x8 x9 x10 x17 x18 x19 x24 x25 x12 x13 x14 x15
    (fun (x26:Int)=>cK (x26 == 2)
     (gK (dH 1 8 x1 [[DC.v (.int .i64 0)]]) (k1 (x1++[[DC.v (.int .i64 0)]]) x2 x3 x4 x5 x6))
     (fB α x12 x13
      (fun (x27:Int)=>fB α x14 x15
       (fun (x28:Int)=>oe α
        (gG α x8 x9 x10 x17 x18 x19 x24 x25 x27 x27 x28 x28
         (fun (x29:Int)=>cK (x29 == 0)
          (k1 x1 true x11 x27 x28 x6)
          (pg α x12 x13 x14 x15
           (fun (x30:Bool) (x31:Bool)=>J0 α x16 x31
            (fun (x51:Bool)=>cK x51
             (k1 x1 x2 x3 x4 x5 true)
             (J1 α x30
              (gK (dH 1 8 x1 [[DC.v (.int .i64 1)]]) (gC α x12 x13 x14 x15 x30
               (fun (x73:Int) (x74:Int) (x75:Int) (x76:Int)=>g α (x1++[[DC.v (.int .i64 1)]]) x2 x3 x4 x5 x6 x7 x8 x9 x10 x11 x12 x73 x14 x74 (w64 (x16+1))
                (fun (x77:ae) (x78:Bool) (x79:Int) (x80:Int) (x81:Int) (x82:Bool)=>g α x77 x78 x79 x80 x81 x82 x7 x8 x9 x10 x11 x75 x13 x76 x15 (w64 (x16+1))
                 (fun (x83:ae) (x84:Bool) (x85:Int) (x86:Int) (x87:Int) (x88:Bool)=>k1 x83 x84 x85 x86 x87 x88)))))
              (gK (dH 1 8 x1 [[DC.v (.int .i64 2)]]) (gC α x12 x13 x14 x15 x30
               (fun (x89:Int) (x90:Int) (x91:Int) (x92:Int)=>g α (x1++[[DC.v (.int .i64 2)]]) x2 x3 x4 x5 x6 x7 x8 x9 x10 x11 x12 x89 x14 x90 (w64 (x16+1))
                (fun (x93:ae) (x94:Bool) (x95:Int) (x96:Int) (x97:Int) (x98:Bool)=>g α x93 x94 x95 x96 x97 x98 x7 x8 x9 x10 x11 x91 x13 x92 x15 (w64 (x16+1))
                 (fun (x99:ae) (x100:Bool) (x101:Int) (x102:Int) (x103:Int) (x104:Bool)=>k1 x99 x100 x101 x102 x103 x104)))))))))))))))))
def sd (f:ata)(n:Nat):Prop:=∀ (α:Type) (ds:List Dm) (d:Dm) (i:Nat) (ls:List L5) (oi ol:Int) (tr:ae) (a b c:Int) (op:Bool) (x:Pc) (k:DVK α),
 ds[i]?=some d->(0<=d.sh/\d.sh<=2)->ckA (j0 d ls oi ol)=0->x.rt->tr.length+2 ^ (n+1)<=1000 ->
 f α tr true a b c op (ds.map rD) (ls.map rL) oi ol (i:Int) x.w1 x.w2 x.s1 x.s2 (5 - (n:Int)) k=k tr true a b c op /\
 ∃ (tr':ae) (o:Bool),tr'.length < tr.length+2 ^ (n+1)/\f α tr false a b c op (ds.map rD) (ls.map rL) oi ol (i:Int) x.w1 x.w2 x.s1 x.s2 (5 - (n:Int)) k=
  match (vis d ls oi ol n x).1 with
  | none=>k tr' false a b c (op || (vis d ls oi ol n x).2)
  | some m=>k tr' true (i:Int) m.1 m.2 o
def ac2 (J:DJ0):Prop:=∀ (α:Type) (c:Int) (b:Bool) (k:Bool->Option α),J α c b k=if 5<=c then k true else k (!b)
def aGj (J:DJ1):Prop:=∀ (α:Type) (b:Bool) (k1 k2:Option α),J α b k1 k2=if b=true then k1 else k2
theorem Kb {d:Dm}(hs:0<=d.sh/\d.sh<=2){x:Pc}{ls:List L5}{oi ol:Int}(h:ckA (j0 d ls oi ol)=0)(hx:x.rt){k:Int->Option α}:gG α (ls.map rL) oi ol d.sh d.pol d.ix d.lo d.hi x.w1 x.w2 x.s1 x.s2 k=k (gy (x.dm d) ls oi ol):=RI (d:=x.dm d) hs (avy h hx)
theorem Eh {d:Dm}(hs:0<=d.sh/\d.sh<=2){x:Pc}{ls:List L5}{oi ol:Int}(h:ckA (j0 d ls oi ol)=0)(hx:x.rt){k:Int->Option α}:gG α (ls.map rL) oi ol d.sh d.pol d.ix d.lo d.hi (dA x.w1 x.w2) (dA x.w1 x.w2) (dA x.s1 x.s2) (dA x.s1 x.s2) k=k (gy (x.mid.dm d) ls oi ol):=RI (d:=x.mid.dm d) hs (avy h (azC hx))
theorem qY {J0:DJ0}{J1:DJ1}{g:ata}{n:Nat}(hn:n < 5)(h0:ac2 J0)(h1:aGj J1)(hg:sd g n):sd (sld (G1 J0 J1 g)) (n+1):=by
 intro α ds d i ls oi ol tr a b c op x k hd hs hc hx ht;rw [af];unfold G1;refine⟨by rw [ap],?_⟩;have hp1:1<=2 ^ (n+1):=Nat.one_le_two_pow;have hp2:2 ^ (n+1+1)=2*2 ^ (n+1):=by rw [Nat.pow_succ];omega
 have hb:=akp hx;obtain⟨b1,b2,b3,b4⟩:=hb;rw [al,rx hd,Kb hs hc hx,ie b1 b2,ie b3 b4,IK,Eh hs hc hx,Kd ⟨b1,b2,b3,b4⟩,h0,if_neg (by omega)];rw [vis];by_cases c1:gy (x.dm d) ls oi ol=2
 ·rw [beq_iff_eq.2 c1,ap,bO (ap8 (by omega) 0),if_pos c1]
  exact⟨tr++[[DC.v (.int .i64 0)]],false,by simp only [List.length_append,List.length_cons,List.length_nil];omega,by rw [Bool.or_false]⟩
 ·rw [beq_eq_false_iff_ne.2 c1,al,if_neg c1]
  by_cases c2:gy (x.mid.dm d) ls oi ol=0
  ·rw [beq_iff_eq.2 c2,ap,if_pos c2]
   exact⟨tr,op,by omega,rfl⟩
  ·rw [beq_eq_false_iff_ne.2 c2,al,if_neg c2,cI]
   by_cases c3:chE x=0
   ·rw [if_neg (fun h=>h c3),if_pos c3]
    exact⟨tr,false,by omega,by rw [Bool.or_true]⟩
   ·rw [if_pos c3,if_neg c3,h1]
    have hw:w64 (5 - ((n+1:Nat):Int)+1)=5 - (n:Int):=by rw [aj (by omega) (by omega)];omega
    obtain⟨q1,q2,q3,q4⟩:=zD x (chE x);obtain⟨p1,p2⟩:=aiJ hx (chE x);have e105:∀ k:Int->Int->Int->Int->Option α,gC α x.w1 x.w2 x.s1 x.s2 (decide (chE x=1)) k=k (x.cut (chE x)).1.w2 (x.cut (chE x)).1.s2 (x.cut (chE x)).2.w1 (x.cut (chE x)).2.s1:=fun k=>Tc ⟨b1,b2,b3,b4⟩;simp only [e105,hw];have key:∀ v:Int,∃ (tr':ae) (o:Bool),tr'.length < tr.length+2 ^ (n+1+1) /\
      gK (dH 1 8 tr [[DC.v (.int .i64 v)]]) (g α (tr++[[DC.v (.int .i64 v)]]) false a b c op (ds.map rD) (ls.map rL) oi ol (i:Int) x.w1 (x.cut (chE x)).1.w2 x.s1 (x.cut (chE x)).1.s2 (5 - (n:Int))
       fun x77 x78 x79 x80 x81 x82=>g α x77 x78 x79 x80 x81 x82 (ds.map rD) (ls.map rL) oi ol (i:Int) (x.cut (chE x)).2.w1 x.w2 (x.cut (chE x)).2.s1 x.s2 (5 - (n:Int)) fun x83 x84 x85 x86 x87 x88=>k x83 x84 x85 x86 x87 x88)=
      match (if (vis d ls oi ol n (x.cut (chE x)).1).1=none then ((vis d ls oi ol n (x.cut (chE x)).2).1,(vis d ls oi ol n (x.cut (chE x)).1).2 || (vis d ls oi ol n (x.cut (chE x)).2).2) else vis d ls oi ol n (x.cut (chE x)).1).1 with
      | none=>k tr' false a b c (op || (if (vis d ls oi ol n (x.cut (chE x)).1).1=none then ((vis d ls oi ol n (x.cut (chE x)).2).1,(vis d ls oi ol n (x.cut (chE x)).1).2 || (vis d ls oi ol n (x.cut (chE x)).2).2) else vis d ls oi ol n (x.cut (chE x)).1).2)
      | some m=>k tr' true (i:Int) m.1 m.2 o:=by
     intro v;rw [bO (ap8 (by omega) v)];generalize x.cut (chE x)=y at *;rw [<- q1,<- q2,<- q3,<- q4];obtain⟨_,t1,o1,l1,r1⟩:=hg α ds d i ls oi ol (tr++[[DC.v (.int .i64 v)]]) a b c op y.1
      (fun x77 x78 x79 x80 x81 x82=>g α x77 x78 x79 x80 x81 x82 (ds.map rD) (ls.map rL) oi ol (i:Int) y.2.w1 y.2.w2 y.2.s1 y.2.s2 (5 - (n:Int)) fun x83 x84 x85 x86 x87 x88=>k x83 x84 x85 x86 x87 x88) hd hs hc p1
      (by simp only [List.length_append,List.length_cons,List.length_nil];omega)
     simp only [List.length_append,List.length_cons,List.length_nil] at l1;rw [r1];cases hv1:(vis d ls oi ol n y.1).1 with
     | some m=>
      rw [if_neg (fun h=>by cases h),hv1];obtain⟨s1,_⟩:=hg α ds d i ls oi ol t1 (i:Int) m.1 m.2 o1 y.2 (fun x83 x84 x85 x86 x87 x88=>k x83 x84 x85 x86 x87 x88) hd hs hc p2 (by omega);exact⟨t1,o1,by omega,s1⟩
     | none=>
      rw [if_pos rfl];simp only;obtain⟨_,t2,o2,l2,r2⟩:=hg α ds d i ls oi ol t1 a b c (op || (vis d ls oi ol n y.1).2) y.2 (fun x83 x84 x85 x86 x87 x88=>k x83 x84 x85 x86 x87 x88) hd hs hc p2 (by omega);rw [r2];cases hv2:(vis d ls oi ol n y.2).1 with
      | some m=>exact⟨t2,o2,by omega,rfl⟩
      | none=>exact⟨t2,o2,by omega,by rw [Bool.or_assoc]⟩
    by_cases cw:decide (chE x=1)=true
    ·simp only [if_pos cw]
     exact key 1
    ·simp only [if_neg cw]
     exact key 2
theorem yy {c:Int}{b:Bool}{k:Bool->Option α}:cK (decide (5<=c)) (k true) (k (!b))=if 5<=c then k true else k (!b):=aK
theorem aDd:ac2 ct:=fun α c b k=>by rw [ct,af,jl,yy]
theorem aDV:ac2 ct:=fun α c b k=>by rw [ct,af,jl,yy]
theorem aw2:sd F2 0:=by
 intro α ds d i ls oi ol tr a b c op x k hd hs hc hx ht;rw [F2,af];refine⟨by rw [Pu,ap],?_⟩;have hb:=akp hx;obtain⟨b1,b2,b3,b4⟩:=hb;rw [Pu,al,rx hd,Kb hs hc hx,ie b1 b2,ie b3 b4,IK,Eh hs hc hx,Kd ⟨b1,b2,b3,b4⟩,aDd,if_pos (by decide)];rw [vis];by_cases c1:gy (x.dm d) ls oi ol=2
 ·rw [beq_iff_eq.2 c1,ap,bO (ap8 (by omega) 0),if_pos c1]
  exact⟨tr++[[DC.v (.int .i64 0)]],false,by simp only [List.length_append,List.length_cons,List.length_nil];omega,by rw [Bool.or_false]⟩
 ·rw [beq_eq_false_iff_ne.2 c1,al,if_neg c1]
  by_cases c2:gy (x.mid.dm d) ls oi ol=0
  ·rw [beq_iff_eq.2 c2,ap,if_pos c2]
   exact⟨tr,op,by omega,rfl⟩
  ·rw [beq_eq_false_iff_ne.2 c2,al,if_neg c2,ap]
   exact⟨tr,false,by omega,by rw [Bool.or_true]⟩
theorem azv:sd Gl 1:=by
 have h:Gl=sld (G1 ct be F2):=rfl;rw [h];exact qY (by decide) (fun α c b k=>by rw [ct,af,jl,yy]) (fun α b k1 k2=>by rw [be,af,fu,oA]) aw2
theorem ayq:sd H3 2:=by
 have h:H3=sld (G1 ct be Gl):=rfl;rw [h];exact qY (by decide) (fun α c b k=>by rw [ct,af,jl,yy]) (fun α b k1 k2=>by rw [be,af,fu,oA]) azv
theorem azX:sd HX 3:=by
 have h:HX=sld (G1 ct be H3):=rfl;rw [h];exact qY (by decide) (fun α c b k=>by rw [ct,af,jl,yy]) (fun α b k1 k2=>by rw [be,af,fu,oA]) ayq
theorem OV:sd nO 4:=by
 have h:nO=sld (G1 ct be HX):=rfl;rw [h];exact qY (by decide) (fun α c b k=>by rw [ct,af,jl,yy]) (fun α b k1 k2=>by rw [be,af,fu,oA]) azX
theorem awZ {ds:List Dm}{d:Dm}{i:Nat}(hd:ds[i]?=some d)(hs:0<=d.sh/\d.sh<=2){ls:List L5}{oi ol:Int}(hc:ckA (j0 d ls oi ol)=0)(hx:d.pc.rt)
  {k1:Bool->Int->Int->Int->Bool->Option α} {k2:DVK α} :
  ∃ (tr:ae) (o z:Bool),NC α false 0 0 0 false (ds.map rD) (ls.map rL) oi ol (i:Int) d.w1 d.w2 d.s1 d.s2 0 k1 k2=
   match (vis d ls oi ol 5 d.pc).1 with
   | none=>if o=true then k1 false 0 0 0 (vis d ls oi ol 5 d.pc).2 else k2 tr false 0 0 0 (vis d ls oi ol 5 d.pc).2
   | some m=>if o=true then k1 true (i:Int) m.1 m.2 z else k2 tr true (i:Int) m.1 m.2 z:=by
 rw [NC,af,ae7];have hw:d.w1=d.pc.w1/\d.w2=d.pc.w2/\d.s1=d.pc.s1/\d.s2=d.pc.s2:=⟨rfl,rfl,rfl,rfl⟩
 obtain⟨w1,w2,w3,w4⟩:=hw;rw [w1,w2,w3,w4];clear w1 w2 w3 w4;generalize d.pc=x at *;have hb:=akp hx;obtain⟨b1,b2,b3,b4⟩:=hb;rw [al,rx hd,Kb hs hc hx,ie b1 b2,ie b3 b4,IK,Eh hs hc hx,Kd ⟨b1,b2,b3,b4⟩,aDV,if_neg (by decide)];rw [vis];by_cases c1:gy (x.dm d) ls oi ol=2
 ·rw [beq_iff_eq.2 c1,ap,if_pos c1]
  exact⟨[[DC.v (.int .i64 0)]],false,false,rfl⟩
 ·rw [beq_eq_false_iff_ne.2 c1,al,if_neg c1]
  by_cases c2:gy (x.mid.dm d) ls oi ol=0
  ·rw [beq_iff_eq.2 c2,ap,if_pos c2]
   exact⟨[],true,false,rfl⟩
  ·rw [beq_eq_false_iff_ne.2 c2,al,if_neg c2,cI]
   by_cases c3:chE x=0
   ·rw [if_neg (fun h=>h c3),if_pos c3]
    exact⟨[],true,false,rfl⟩
   ·rw [if_pos c3,if_neg c3,be,af,fu,oA]
    have hw:w64 (0+1)=5 - ((4:Nat):Int):=by decide
    obtain⟨q1,q2,q3,q4⟩:=zD x (chE x);obtain⟨p1,p2⟩:=aiJ hx (chE x);have e105:∀ k:Int->Int->Int->Int->Option α,gC α x.w1 x.w2 x.s1 x.s2 (decide (chE x=1)) k=k (x.cut (chE x)).1.w2 (x.cut (chE x)).1.s2 (x.cut (chE x)).2.w1 (x.cut (chE x)).2.s1:=fun k=>Tc ⟨b1,b2,b3,b4⟩;simp only [e105,hw];have key:∀ v:Int,∃ (tr:ae) (o z:Bool),
      nO α [[DC.v (.int .i64 v)]] false 0 0 0 false (ds.map rD) (ls.map rL) oi ol (i:Int) x.w1 (x.cut (chE x)).1.w2 x.s1 (x.cut (chE x)).1.s2 (5 - ((4:Nat):Int))
       (fun x77 x78 x79 x80 x81 x82=>nO α x77 x78 x79 x80 x81 x82 (ds.map rD) (ls.map rL) oi ol (i:Int) (x.cut (chE x)).2.w1 x.w2 (x.cut (chE x)).2.s1 x.s2 (5 - ((4:Nat):Int)) fun x83 x84 x85 x86 x87 x88=>k2 x83 x84 x85 x86 x87 x88)=
      match (if (vis d ls oi ol 4 (x.cut (chE x)).1).1=none then ((vis d ls oi ol 4 (x.cut (chE x)).2).1,(vis d ls oi ol 4 (x.cut (chE x)).1).2 || (vis d ls oi ol 4 (x.cut (chE x)).2).2) else vis d ls oi ol 4 (x.cut (chE x)).1).1 with
      | none=>if o=true then k1 false 0 0 0 (if (vis d ls oi ol 4 (x.cut (chE x)).1).1=none then ((vis d ls oi ol 4 (x.cut (chE x)).2).1,(vis d ls oi ol 4 (x.cut (chE x)).1).2 || (vis d ls oi ol 4 (x.cut (chE x)).2).2) else vis d ls oi ol 4 (x.cut (chE x)).1).2
        else k2 tr false 0 0 0 (if (vis d ls oi ol 4 (x.cut (chE x)).1).1=none then ((vis d ls oi ol 4 (x.cut (chE x)).2).1,(vis d ls oi ol 4 (x.cut (chE x)).1).2 || (vis d ls oi ol 4 (x.cut (chE x)).2).2) else vis d ls oi ol 4 (x.cut (chE x)).1).2
      | some m=>if o=true then k1 true (i:Int) m.1 m.2 z else k2 tr true (i:Int) m.1 m.2 z:=by
     intro v;generalize x.cut (chE x)=y at *;rw [<- q1,<- q2,<- q3,<- q4];obtain⟨_,t1,o1,l1,r1⟩:=OV α ds d i ls oi ol [[DC.v (.int .i64 v)]] 0 0 0 false y.1
      (fun x77 x78 x79 x80 x81 x82=>nO α x77 x78 x79 x80 x81 x82 (ds.map rD) (ls.map rL) oi ol (i:Int) y.2.w1 y.2.w2 y.2.s1 y.2.s2 (5 - ((4:Nat):Int)) fun x83 x84 x85 x86 x87 x88=>k2 x83 x84 x85 x86 x87 x88) hd hs hc p1
      (by simp only [List.length_cons,List.length_nil];decide)
     simp only [List.length_cons,List.length_nil] at l1;rw [r1];cases hv1:(vis d ls oi ol 4 y.1).1 with
     | some m=>
      rw [if_neg (fun h=>by cases h),hv1];obtain⟨s1,_⟩:=OV α ds d i ls oi ol t1 (i:Int) m.1 m.2 o1 y.2 (fun x83 x84 x85 x86 x87 x88=>k2 x83 x84 x85 x86 x87 x88) hd hs hc p2 (by simp only [Nat.reduceAdd,Nat.reducePow] at l1 ⊢;omega);exact⟨t1,false,o1,s1⟩
     | none=>
      rw [if_pos rfl];simp only;obtain⟨_,t2,o2,l2,r2⟩:=OV α ds d i ls oi ol t1 0 0 0 (false || (vis d ls oi ol 4 y.1).2) y.2 (fun x83 x84 x85 x86 x87 x88=>k2 x83 x84 x85 x86 x87 x88) hd hs hc p2 (by simp only [Nat.reduceAdd,Nat.reducePow] at l1 ⊢;omega);rw [r2];cases hv2:(vis d ls oi ol 4 y.2).1 with
      | some m=>exact⟨t2,false,o2,rfl⟩
      | none=>exact⟨t2,false,false,by rw [Bool.false_or,if_neg (by decide)]⟩
    by_cases cw:decide (chE x=1)=true
    ·simp only [if_pos cw]
     exact key 1
    ·simp only [if_neg cw]
     exact key 2
theorem ayZ {x:Int}{k:Bool->Option α}:OD α x k=k (decide (5000<=x/\x<=80000)):=by rw [OD,af,aj6,Mb.f8_eq]
theorem ap3 {x:Int}{k:Bool->Option α}:sj α x k=k (decide (0<=x/\x<=80000)):=by rw [sj,af,IM,Mb.f8_eq]
theorem as8 {a b lo hi:Int}{k:Bool->Option α}:yt α a b lo hi k=k (decide ((lo<=a/\a<=hi)/\lo<=b/\b<=hi)):=by
 simp only [yt,af,Ue,Mb.f8_eq,Cc]
theorem asC {a b lo hi:Int}{k:Bool->Option α}:xq α a b lo hi k=k (decide ((lo<=a/\a<=hi)/\lo<=b/\b<=hi)):=by
 simp only [xq,af,SQ,Mb.f8_eq,Cc]
theorem aor {x:Int}{k:Bool->Option α}:DZ α x k=k (decide (0<=x/\x<=1)):=by
 rw [DZ,af,RS];by_cases c:x=0
 ·subst c;rfl
 ·rw [beq_eq_false_iff_ne.2 c,al]
  by_cases c1:x=1
  ·subst c1;rfl
  ·rw [beq_eq_false_iff_ne.2 c1,decide_eq_false (by omega)]
theorem awB (l:L5){k:Int->Option α}:Nv α l.1 l.2.1 l.2.2.1 l.2.2.2.1 l.2.2.2.2 k=k (uC l):=by
 simp only [Nv,af,akv,as8,sj,IM,Mb.f8_eq,cI,aK];unfold uC aaR;by_cases h1:(5000<=l.1/\l.1<=80000)/\5000<=l.2.1/\l.2.1<=80000
 ·rw [if_pos h1]
  by_cases h2:(0<=l.2.2.1/\l.2.2.1<=1000000)/\0<=l.2.2.2.1/\l.2.2.2.1<=1000000
  ·rw [if_pos h2]
   by_cases h3:0<=l.2.2.2.2/\l.2.2.2.2<=80000
   ·rw [if_pos h3,if_pos (decide_eq_true ⟨h1,h2,h3⟩)]
    by_cases h4:l.2.1 < l.1
    ·rw [if_pos h4,if_pos h4]
    ·rw [if_neg h4,if_neg h4]
     by_cases h5:l.2.2.2.1 < l.2.2.1
     ·rw [if_pos h5,if_pos h5]
     ·rw [if_neg h5,if_neg h5]
   ·rw [if_neg h3,if_neg (fun h=>h3 (of_decide_eq_true h).2.2)]
  ·rw [if_neg h2,if_neg (fun h=>h2 (of_decide_eq_true h).2.1)]
 ·rw [if_neg h1,if_neg (fun h=>h1 (of_decide_eq_true h).1)]
theorem axj (d:Dm){k:Int->Option α}:N6 α d.sh d.pol d.ix d.s1 d.s2 d.w1 d.w2 d.lo d.hi k=k (ckD d):=by
 simp only [N6,af,afG,Jc,Q7,aor,asC,Mb.f8_eq,cI,aK];unfold ckD;by_cases a1:0<=d.sh/\d.sh<=2
 ·rw [if_pos a1]
  by_cases a2:0<=d.pol/\d.pol<=1
  ·have hA:(0<=d.sh/\d.sh<=2)/\0<=d.pol/\d.pol<=1:=⟨a1,a2⟩
   rw [if_pos a2,if_pos hA];by_cases b1:5000<=d.ix/\d.ix<=80000
   ·rw [if_pos b1]
    by_cases b2:(0<=d.s1/\d.s1<=9999)/\0<=d.s2/\d.s2<=9999
    ·have hB:(5000<=d.ix/\d.ix<=80000)/\(0<=d.s1/\d.s1<=9999)/\0<=d.s2/\d.s2<=9999:=⟨b1,b2⟩
     rw [if_pos b2,if_pos hB];by_cases c3:d.s2 < d.s1
     ·rw [if_pos c3,if_pos c3]
     ·rw [if_neg c3,if_neg c3]
      by_cases c4:(1000<=d.w1/\d.w1<=200000)/\1000<=d.w2/\d.w2<=200000
      ·rw [if_pos c4,if_pos c4]
       by_cases c5:d.w2 < d.w1
       ·rw [if_pos c5,if_pos c5]
       ·rw [if_neg c5,if_neg c5]
        by_cases e1:0<=d.lo/\d.lo<=10000
        ·rw [if_pos e1]
         by_cases e2:0<=d.hi/\d.hi<=10000
         ·have hE:(0<=d.lo/\d.lo<=10000)/\0<=d.hi/\d.hi<=10000:=⟨e1,e2⟩
          rw [if_pos e2,if_pos hE];by_cases c7:d.hi < d.lo
          ·rw [if_pos c7,if_pos c7]
          ·rw [if_neg c7,if_neg c7]
         ·rw [if_neg e2,if_neg (fun h:(0<=d.lo/\d.lo<=10000)/\0<=d.hi/\d.hi<=10000=>e2 h.2)]
        ·rw [if_neg e1,if_neg (fun h:(0<=d.lo/\d.lo<=10000)/\0<=d.hi/\d.hi<=10000=>e1 h.1)]
      ·rw [if_neg c4,if_neg c4]
    ·rw [if_neg b2,if_neg (fun h:(5000<=d.ix/\d.ix<=80000)/\(0<=d.s1/\d.s1<=9999)/\0<=d.s2/\d.s2<=9999=>b2 h.2)]
   ·rw [if_neg b1,if_neg (fun h:(5000<=d.ix/\d.ix<=80000)/\(0<=d.s1/\d.s1<=9999)/\0<=d.s2/\d.s2<=9999=>b1 h.1)]
  ·rw [if_neg a2,if_neg (fun h:(0<=d.sh/\d.sh<=2)/\0<=d.pol/\d.pol<=1=>a2 h.2)]
 ·rw [if_neg a1,if_neg (fun h:(0<=d.sh/\d.sh<=2)/\0<=d.pol/\d.pol<=1=>a1 h.1)]
theorem axQ {ds:List Dm}(hA:ds.length<=8){k1:Int->Int->Option α}{k2:Int->Bool->Option α}{Y:Option α}{K:Int->Option α}(h1:∀ x e,k1 x e=K e)(h2:∀ x b,k2 x b=Y) :
  ∀ (rest:List Dm) (i n:Nat),ds.drop i=rest->i<=ds.length->rest.length < n ->
  qA α (ds.map rD) k1 k2 n (i:Int)=if dsE rest=0 then Y else K (dsE rest):=by
 intro rest
 induction rest with
 | nil=>
  intro i n hd hi hn;obtain⟨n,rfl⟩:∃ n',n=n'+1:=⟨n - 1,by simp only [List.length_nil] at hn;omega⟩
  have hl:ds.length<=i:=List.drop_eq_nil_iff.1 hd;rw [qA];simp only [wL,List.length_map];rw [decide_eq_false (by omega),al,h2];rfl
 | cons d rs ih=>
  intro i n hd hi hn;obtain⟨n,rfl⟩:∃ n',n=n'+1:=⟨n - 1,by omega⟩
  obtain⟨hg,hd'⟩:=bT hd;have hl:i < ds.length:=(List.getElem?_eq_some_iff.1 hg).1;have hw:w64 ((i:Int)+1)=((i+1:Nat):Int):=by rw [aj (by omega) (by omega)];omega
  have hn':rs.length < n:=by simp only [List.length_cons] at hn;omega
  rw [qA];simp only [wL,List.length_map];rw [decide_eq_true (by omega),ap,rx hg,axj,bo,h1,hw,ih (i+1) n hd' (by omega) hn'];show _=if (if ckD d=0 then dsE rs else ckD d)=0 then Y else K (if ckD d=0 then dsE rs else ckD d);by_cases c:ckD d=0
  ·rw [if_pos c,if_pos c]
  ·rw [if_neg c,if_neg c,if_neg c]
theorem awE {ds:List Dm}{k:Int->Option α}:Mn α (ds.map rD) (fun _ e=>k e)=k (dms ds):=by
 simp only [Mn,af,ajF,List.length_map,gz,aK];unfold dms;by_cases c1:ds.length=0
 ·rw [if_pos (by omega),if_pos c1]
 ·rw [if_neg (by omega),if_neg c1]
  by_cases c2:8 < ds.length
  ·rw [if_pos (by omega),if_pos c2]
  ·rw [if_neg (by omega),if_neg c2,AB,af,LZ]
   have hf:ds.length < aE:=by have:=bz;omega
   refine (axQ (K:=k) (by omega) (fun _ _=>rfl) (fun _ _=>rfl) ds 0 aE rfl (Nat.zero_le _) hf).trans ?_;by_cases c:dsE ds=0
   ·rw [if_pos c,c]
   ·rw [if_neg c]
def onE (oi ol:Int):Int:=if 5000<=oi/\oi<=80000 then (if 0<=ol/\ol<=80000 then 0 else 2) else 2
theorem axg {L:List L5}{i:Nat}{l:L5}(h:L[i]?=some l){f:Int->Int->Int->Int->Int->Option α}:dT (L.map rL) (i:Int) [.int .i64,.int .i64,.int .i64,.int .i64,.int .i64] f=f l.1 l.2.1 l.2.2.1 l.2.2.2.1 l.2.2.2.2:=PH h
theorem av2 {lo hi a b:Int}(h1:a<=lo/\lo<=b)(h2:a<=hi/\hi<=b)(h3:¬ hi < lo):fJ lo hi a b=0:=by
 unfold fJ;rw [if_pos (by omega),if_neg h3]
theorem ax7 {ls:List L5}(hA:ls.length<=40){k1:Int->Int->Option α}{k2:Int->Bool->Option α}{Y:Option α}{K:Int->Option α}(h1:∀ x e,k1 x e=K e)(h2:∀ x b,k2 x b=Y) :
  ∀ (rest:List L5) (i n:Nat),ls.drop i=rest->i<=ls.length->rest.length < n ->
  qM α (ls.map rL) k1 k2 n (i:Int)=if lsE rest=0 then Y else K (lsE rest):=by
 intro rest
 induction rest with
 | nil=>
  intro i n hd hi hn;obtain⟨n,rfl⟩:∃ n',n=n'+1:=⟨n - 1,by simp only [List.length_nil] at hn;omega⟩
  have hl:ls.length<=i:=List.drop_eq_nil_iff.1 hd;rw [qM];simp only [uq,List.length_map];rw [decide_eq_false (by omega),al,h2];rfl
 | cons l rs ih=>
  intro i n hd hi hn;obtain⟨n,rfl⟩:∃ n',n=n'+1:=⟨n - 1,by omega⟩
  obtain⟨hg,hd'⟩:=bT hd;have hl:i < ls.length:=(List.getElem?_eq_some_iff.1 hg).1;have hw:w64 ((i:Int)+1)=((i+1:Nat):Int):=by rw [aj (by omega) (by omega)];omega
  have hn':rs.length < n:=by simp only [List.length_cons] at hn;omega
  rw [qM];simp only [uq,List.length_map];rw [decide_eq_true (by omega),ap,axg hg,awB,bo,h1,hw,ih (i+1) n hd' (by omega) hn'];show _=if (if uC l=0 then lsE rs else uC l)=0 then Y else K (if uC l=0 then lsE rs else uC l);by_cases c:uC l=0
  ·rw [if_pos c,if_pos c]
  ·rw [if_neg c,if_neg c,if_neg c]
def atJ (ls:List L5)(oi ol:Int):Int:=if 40 < ls.length then 8 else if lsE ls=0 then onE oi ol else lsE ls
theorem azp {ls:List L5}{oi ol:Int}{k:Int->Option α}:Fz α (ls.map rL) oi ol (fun _ e=>k e)=k (atJ ls oi ol):=by
 rw [Fz,af,alW,List.length_map,aK];unfold atJ;by_cases c0:40 < ls.length
 ·rw [if_pos (by omega),if_pos c0]
 ·have hf:ls.length < aE:=by have:=bz;omega
  rw [if_neg (by omega),if_neg c0,zE,af,MK];refine (ax7 (K:=k) (by omega) (fun _ _=>rfl) (fun _ _=>rfl) ls 0 aE rfl (Nat.zero_le _) hf).trans ?_;by_cases c1:lsE ls=0
  ·rw [if_pos c1,if_pos c1,ayZ,cI,ap3,cI]
   unfold onE;by_cases c:5000<=oi/\oi<=80000
   ·rw [if_pos c,if_pos c]
    by_cases c2:0<=ol/\ol<=80000
    ·rw [if_pos c2,if_pos c2]
    ·rw [if_neg c2,if_neg c2]
   ·rw [if_neg c,if_neg c]
  ·rw [if_neg c1,if_neg c1]
theorem ahY {d:Dm}{ds:List Dm}(h:dms (d::ds)=0):ckD d=0:=(OY h).2.2 d (List.mem_cons_self ..)
theorem Px {d:Dm}{ls:List L5}{oi ol:Int}(hd:ckD d=0):ckA (j0 d ls oi ol)=atJ ls oi ol:=by
 obtain⟨⟨_,a1⟩,⟨a2,a3,a4⟩,a5,⟨a6,a7⟩,a8,_⟩:=Ps hd;unfold ckA j0 atJ onE;simp only;rw [if_pos a2,if_pos (av2 a3 a4 a5),if_pos a1,if_pos (av2 a6 a7 a8)];by_cases c:40 < ls.length
 ·rw [if_pos c,if_pos (by omega)]
 ·rw [if_neg c,if_neg (by omega)]
theorem azr {ds:List Dm}{ls:List L5}{oi ol:Int}{k:Int->Option α}:M3 α (ds.map rD) (ls.map rL) oi ol (fun _ e=>k e)=k (ky ds ls oi ol):=by
 rw [M3,af,acB];refine (awE (k:=fun e=>cK (e != 0) (k e) (Fz α (ls.map rL) oi ol fun x7 x8=>k x8))).trans ?_;rw [azp,bo];cases ds with
 | nil=>rfl
 | cons d r=>
  show _=k (if dms (d::r)=0 then ckA (j0 d ls oi ol) else dms (d::r));by_cases c:dms (d::r)=0
  ·rw [if_pos c,if_pos c,Px (ahY c)]
  ·rw [if_neg c,if_neg c]
theorem akH {ds:List Dm}{ls:List L5}{oi ol:Int}(h:ky ds ls oi ol=0):ds.length<=8/\∀ d ∈ ds,ckD d=0/\ckA (j0 d ls oi ol)=0:=by
 cases ds with
 | nil=>exact absurd h (show ¬ (12:Int)=0 by decide)
 | cons d r=>
  have hd:=h;unfold ky awk at hd;simp only at hd;by_cases c:dms (d::r)=0
  ·rw [if_pos c] at hd
   obtain⟨a1,a2,a3⟩:=OY c;rw [Px (ahY c)] at hd;exact⟨a1,fun x hx=>⟨a3 x hx,by rw [Px (a3 x hx)];exact hd⟩⟩
  ·rw [if_neg c] at hd;exact absurd hd c
theorem aBv {d:Dm}(h:ckD d=0):(0<=d.sh/\d.sh<=2)/\d.pc.rt:=by
 obtain⟨⟨h1,_⟩,⟨_,h2,h3⟩,h4,⟨h5,h6⟩,h7,_⟩:=Ps h;unfold Pc.rt Dm.pc;simp only;omega
theorem axT {k:Option α}:LT α k=k:=by rw [LT,af,ajD]
theorem alS {a b:Bool}{k:Bool->Option α}:eW α a b k=k (a || b):=by rw [eW,af,Cn];cases a <;> rfl
theorem aj5 {a b:Bool}{k:Bool->Option α}:eW α a b k=k (a || b):=by rw [eW,af,Cn];cases a <;> rfl
theorem ayV {ds:List Dm}{ls:List L5}{oi ol:Int}(hl:ds.length<=8){k1:Int->Int->Int->Option α}{k2:Bool->Int->Bool->ae->Option α}{K:Int->ae->Int->Int->Int->Option α}
  (h1:∀ i w s,k1 i w s=K 0 [] i w s) (h2:∀ o i b tr,k2 o i b tr=if o=true then K 1 [] 0 0 0 else K 2 tr 0 0 0) :
  ∀ (rest:List Dm) (i n:Nat) (o:Bool) (tr:ae),(∀ d ∈ rest,ckD d=0/\ckA (j0 d ls oi ol)=0)->ds.drop i=rest->i<=ds.length->rest.length < n->tr.length=i ->
  ∃ tr',mA α (ds.map rD) (ls.map rL) oi ol k1 k2 n o (i:Int) tr=K (me ls oi ol rest (if o=true then 1 else 2) i).1 tr' (me ls oi ol rest (if o=true then 1 else 2) i).2.1 (me ls oi ol rest (if o=true then 1 else 2) i).2.2.1 (me ls oi ol rest (if o=true then 1 else 2) i).2.2.2:=by
 intro rest
 induction rest with
 | nil=>
  intro i n o tr hc hd hi hn ht;obtain⟨n,rfl⟩:∃ n',n=n'+1:=⟨n - 1,by simp only [List.length_nil] at hn;omega⟩
  have hl:ds.length<=i:=List.drop_eq_nil_iff.1 hd;rw [mA];simp only [wh,List.length_map];rw [decide_eq_false (by omega),al,h2];cases o
  ·exact⟨tr,rfl⟩
  ·exact⟨[],rfl⟩
 | cons d rs ih=>
  intro i n o tr hc hd hi hn ht;obtain⟨n,rfl⟩:∃ n',n=n'+1:=⟨n - 1,by omega⟩
  obtain⟨hg,hd'⟩:=bT hd;have hl':i < ds.length:=(List.getElem?_eq_some_iff.1 hg).1;have hw:w64 ((i:Int)+1)=((i+1:Nat):Int):=by rw [aj (by omega) (by omega)];omega
  have hn':rs.length < n:=by simp only [List.length_cons] at hn;omega
  obtain⟨c1,c2⟩:=hc d (List.mem_cons_self ..);obtain⟨c3,c4⟩:=aBv c1;rw [mA];simp only [wh,List.length_map];rw [decide_eq_true (by omega),ap,tN,af,MJ,rx hg,axT];have ih':=fun o tr' ht=>ih (i+1) n o tr' (fun d hd=>hc d (List.mem_cons_of_mem _ hd)) hd' (by omega) hn' ht;generalize hR:mA α (ds.map rD) (ls.map rL) oi ol k1 k2 n=R at *;obtain⟨t,z,z2,e⟩:=awZ (α:=α) hg c3 c2 c4
   (k1:=fun x52 x53 x54 x55 x56=>cK x52 (k1 x53 x54 x55) (eW α o x56 fun x82=>gK (dH 1 24 tr [[DC.sl ([]:ae)]]) (R x82 (w64 ((i:Int)+1)) (tr++[[DC.sl ([]:ae)]]))))
   (k2:=fun x62 x57 x58 x59 x60 x61=>cK x57 (k1 x58 x59 x60) (eW α o x61 fun x102=>gK (dH 1 24 tr [[DC.sl x62]]) (R x102 (w64 ((i:Int)+1)) (tr++[[DC.sl x62]]))))
  refine Exists.imp (fun _ h=>e.trans h) ?_;clear e;rw [me];cases hv:(vis d ls oi ol 5 d.pc).1 with
  | some m=>
   simp only;refine⟨[],?_⟩;by_cases c:z=true
   ·rw [if_pos c,ap,h1]
   ·rw [if_neg c,ap,h1]
  | none=>
   simp only;have ho:(if (vis d ls oi ol 5 d.pc).2=true then (1:Int) else (if o=true then 1 else 2))=if (o || (vis d ls oi ol 5 d.pc).2)=true then 1 else 2:=by
    cases o <;> cases (vis d ls oi ol 5 d.pc).2 <;> rfl
   rw [ho];by_cases c:z=true
   ·rw [if_pos c,al,alS,bO (al0 (by omega) _),hw]
    exact ih' _ _ (by simp only [List.length_append,List.length_cons,List.length_nil];omega)
   ·rw [if_neg c,al,aj5,bO (al0 (by omega) _),hw]
    exact ih' _ _ (by simp only [List.length_append,List.length_cons,List.length_nil];omega)
theorem axO {ds:List Dm}{ls:List L5}{oi ol:Int}(h:ky ds ls oi ol=0){k:Int->ae->Int->Int->Int->Option α} :
  ∃ tr,Hl α (ds.map rD) (ls.map rL) oi ol k=k (me ls oi ol ds 2 0).1 tr (me ls oi ol ds 2 0).2.1 (me ls oi ol ds 2 0).2.2.1 (me ls oi ol ds 2 0).2.2.2:=by
 obtain⟨h1,h2⟩:=akH h;have hf:ds.length < aE:=by have:=bz;omega
 rw [Hl,af,ai2,AT,af,ME];exact ayV h1 (K:=k) (fun _ _ _=>rfl) (fun o _ _ tr=>by rw [oA]) ds 0 aE false [] h2 rfl (Nat.zero_le _) hf rfl
theorem ay2 {a b lo hi:Int}{k:Int->Option α}:Lg α a b lo hi k=k (fJ a b lo hi):=by
 rw [Lg,af,ajo,Mb.f8_eq,cI,Mb.f8_eq,cI,aK];unfold fJ;by_cases c1:lo<=a/\a<=hi
 ·rw [if_pos c1]
  by_cases c2:lo<=b/\b<=hi
  ·have c12:(lo<=a/\a<=hi)/\lo<=b/\b<=hi:=⟨c1,c2⟩
   rw [if_pos c2,if_pos c12];by_cases c3:b < a
   ·rw [if_pos c3,if_pos c3]
   ·rw [if_neg c3,if_neg c3]
  ·rw [if_neg c2,if_neg (fun h=>c2 h.2)]
 ·rw [if_neg c1,if_neg (fun h=>c1 h.1)]
theorem anK {l:List D3}(hl:l.length<=100){k1 Y:Option α}{k2:Int->Bool->Option α}(h2:∀ x b,k2 x b=Y) :
  ∀ (rest:List D3) (i n:Nat),l.drop i=rest->i<=l.length->rest.length < n->qf α (l.map rT3) k1 k2 n (i:Int)=if rest.all nA=true then Y else k1:=by
 intro rest
 induction rest with
 | nil=>
  intro i n hd hi hn;obtain⟨n,rfl⟩:∃ n',n=n'+1:=⟨n - 1,by simp only [List.length_nil] at hn;omega⟩
  have hl:l.length<=i:=List.drop_eq_nil_iff.1 hd;rw [qf];simp only [va,List.length_map];rw [decide_eq_false (by omega),al,h2];rfl
 | cons x rs ih=>
  intro i n hd hi hn;obtain⟨n,rfl⟩:∃ n',n=n'+1:=⟨n - 1,by omega⟩
  obtain⟨hg,hd'⟩:=bT hd;have hl':i < l.length:=(List.getElem?_eq_some_iff.1 hg).1;have hw:w64 ((i:Int)+1)=((i+1:Nat):Int):=by rw [aj (by omega) (by omega)];omega
  have hn':rs.length < n:=by simp only [List.length_cons] at hn;omega
  rw [qf];simp only [va,List.length_map];rw [decide_eq_true (by omega),ap,vE hg,Mb.f8_eq,cI,Mb.f8_eq,cI,Mb.f8_eq,cI,hw,ih (i+1) n hd' (by omega) hn'];simp only [List.all_cons,Bool.and_eq_true];by_cases c1:5000<=x.1/\x.1<=80000
  ·rw [if_pos c1]
   by_cases c2:0<=x.2.1/\x.2.1<=80000
   ·rw [if_pos c2]
    by_cases c3:0<=x.2.2/\x.2.2<=1000000
    ·rw [if_pos c3]
     by_cases c4:rs.all nA=true
     ·rw [if_pos c4,if_pos ⟨decide_eq_true ⟨c1,c2,c3⟩,c4⟩]
     ·rw [if_neg c4,if_neg (fun h=>c4 h.2)]
    ·rw [if_neg c3,if_neg (fun h=>c3 (of_decide_eq_true h.1).2.2)]
   ·rw [if_neg c2,if_neg (fun h=>c2 (of_decide_eq_true h.1).2.1)]
  ·rw [if_neg c1,if_neg (fun h=>c1 (of_decide_eq_true h.1).1)]
theorem aom {l:List (Int × Int)}(hl:l.length<=100){k1:Int->Option α}{Y:Option α}{k2:Int->Bool->Option α}(h2:∀ x b,k2 x b=Y) :
  ∀ (rest:List (Int × Int)) (i n:Nat),l.drop i=rest->i<=l.length->rest.length < n->q7 α (l.map rT2) k1 k2 n (i:Int)=if grL rest=0 then Y else k1 (grL rest):=by
 intro rest
 induction rest with
 | nil=>
  intro i n hd hi hn;obtain⟨n,rfl⟩:∃ n',n=n'+1:=⟨n - 1,by simp only [List.length_nil] at hn;omega⟩
  have hl:l.length<=i:=List.drop_eq_nil_iff.1 hd;rw [q7];simp only [sS,List.length_map];rw [decide_eq_false (by omega),al,h2];rfl
 | cons x rs ih=>
  intro i n hd hi hn;obtain⟨n,rfl⟩:∃ n',n=n'+1:=⟨n - 1,by omega⟩
  obtain⟨hg,hd'⟩:=bT hd;have hl':i < l.length:=(List.getElem?_eq_some_iff.1 hg).1;have hw:w64 ((i:Int)+1)=((i+1:Nat):Int):=by rw [aj (by omega) (by omega)];omega
  have hn':rs.length < n:=by simp only [List.length_cons] at hn;omega
  rw [q7];simp only [sS,List.length_map];rw [decide_eq_true (by omega),ap,Rz hg,ay2,bo,hw,ih (i+1) n hd' (by omega) hn',grL];by_cases c:fJ x.1 x.2 0 1000000=0
  ·rw [if_pos c,if_pos c]
  ·rw [if_neg c,if_neg c,if_neg c]
theorem aAZ:∀ {gr:List (Int × Int)},grL gr=0->∀ r ∈ gr,r.2<=1000000:=by
 intro gr
 induction gr with
 | nil=>intro _ r hr;cases hr
 | cons x xs ih=>
  intro h r hr;unfold grL at h;by_cases c:fJ x.1 x.2 0 1000000=0
  ·rw [if_pos c] at h
   rcases List.mem_cons.1 hr with rfl | hr
   ·exact (acp c).2.2
   ·exact ih h r hr
  ·rw [if_neg c] at h;exact absurd h c
theorem asm {des:List D3}{gr:List (Int × Int)}{er:Int}(h0:0<=er)(h1:er<=1000)(hl:des.length<=40)(hle:gr.length<=des.length)(hr:∀ r ∈ gr,r.2<=1000000){k1:Option α}{Y:List L5->Option α}{k2:Int->Bool->ae->Option α}(h2:∀ x b A,k2 x b (A.map rL)=Y A) :
  ∀ (rest:List D3) (g:List (Int × Int)) (i n:Nat) (A:List L5),des.drop i=rest->gr.drop i=g->i<=des.length->rest.length < n->A.length=i->rest.all nA=true ->
  j5 α (des.map rT3) (gr.map rT2) er k1 k2 n (i:Int) (A.map rL)=if (rest.drop g.length).all (vJ er)=true then Y (A++(zb rest g++(rest.drop g.length).map (bxR er))) else k1:=by
 intro rest
 induction rest with
 | nil=>
  intro g i n A hd hg hi hn hA _;obtain⟨n,rfl⟩:∃ n',n=n'+1:=⟨n - 1,by simp only [List.length_nil] at hn;omega⟩
  have hl:des.length<=i:=List.drop_eq_nil_iff.1 hd;rw [j5];simp only [w8,List.length_map];rw [decide_eq_false (by omega),al,h2,List.drop_nil];have:zb ([]:List D3) g=[]:=rfl;rw [this];simp only [List.map_nil,List.append_nil];rfl
 | cons x rs ih=>
  intro g i n A hd hg hi hn hA hb;obtain⟨n,rfl⟩:∃ n',n=n'+1:=⟨n - 1,by omega⟩
  obtain⟨hx,hd'⟩:=bT hd;have hl':i < des.length:=(List.getElem?_eq_some_iff.1 hx).1;have hw:w64 ((i:Int)+1)=((i+1:Nat):Int):=by rw [aj (by omega) (by omega)];omega
  have hn':rs.length < n:=by simp only [List.length_cons] at hn;omega
  simp only [List.all_cons,Bool.and_eq_true] at hb;obtain⟨_,_,g3⟩:=of_decide_eq_true hb.1;obtain⟨b1,b2,b3⟩:=acj h0 h1 hb.1;have m:=ld g3.1 g3.2 h0 h1;have e69:∀ k:Int->Option α,cn α (w64 (x.2.2*er)) 1000 k=k (byE er x):=fun k=>by
   rw [Mb.f69_raw (by decide),xv (by rw [aj (by omega) (by omega)];exact m.1) (by rw [aj (by omega) (by omega)];omega) (by decide) (by decide),b3]
  rw [j5];simp only [w8,List.length_map];rw [decide_eq_true (by omega),ap,vE hx,e69,tB,af,M6,List.length_map,aK];cases g with
  | nil=>
   have hgl:gr.length<=i:=List.drop_eq_nil_iff.1 hg;have hg':gr.drop (i+1)=[]:=List.drop_eq_nil_iff.2 (by omega);rw [if_neg (by omega),aj (n:=x.2.2+byE er x) (by omega) (by omega),aj (n:=x.2.2 - byE er x) (by omega) (by omega),aK];have ih':=ih [] (i+1) n (A++[bxR er x]) hd' hg' (by omega) hn' (by rw [List.length_append,List.length_cons,List.length_nil];omega) hb.2;simp only [List.length_nil,List.drop_zero,List.all_cons,Bool.and_eq_true] at ih' ⊢;by_cases c:1000000 < x.2.2+byE er x
   ·rw [if_pos c,if_neg (fun h=>by have:=of_decide_eq_true h.1;omega)]
   ·rw [if_neg c]
    change gK (dH 5 40 (A.map rL) [rL (bxR er x)]) (j5 α _ _ _ k1 k2 n _ (A.map rL++[rL (bxR er x)]))=_;rw [bO (ap5 (by omega)),vw,hw,ih'];have z0:∀ l:List D3,zb l []=[]:=fun l=>by cases l <;> rfl
    rw [z0,z0];by_cases c2:rs.all (vJ er)=true
    ·rw [if_pos c2,if_pos ⟨decide_eq_true (by omega),c2⟩,List.append_assoc];rfl
    ·rw [if_neg c2,if_neg (fun h=>c2 h.2)]
  | cons r gs=>
   obtain⟨hy,hg'⟩:=bT hg;have hgl:i < gr.length:=(List.getElem?_eq_some_iff.1 hy).1;have hr2:=hr r (List.mem_of_getElem? hy);rw [if_pos (by omega),Rz hy,aK,if_neg (by omega)];have ih':=ih gs (i+1) n (A++[(x.1,x.1,r.1,r.2,x.2.1)]) hd' hg' (by omega) hn' (by rw [List.length_append,List.length_cons,List.length_nil];omega) hb.2;change gK (dH 5 40 (A.map rL) [rL (x.1,x.1,r.1,r.2,x.2.1)]) (j5 α _ _ _ k1 k2 n _ (A.map rL++[rL (x.1,x.1,r.1,r.2,x.2.1)]))=_;rw [bO (ap5 (by omega)),vw,hw,ih',List.length_cons,List.drop_succ_cons];by_cases c2:(rs.drop gs.length).all (vJ er)=true
   ·rw [if_pos c2,if_pos c2,List.append_assoc];rfl
   ·rw [if_neg c2,if_neg c2]
theorem aiX {des:List D3}{gr:List (Int × Int)}{er:Int}(hg:gr.length<=100){k:ae->Int->Option α}:Gc α (des.map rT3) (gr.map rT2) er k=k ((hF des gr er).2.map rL) (hF des gr er).1:=by
 have hf:=bz;rw [Gc,af,afd,List.length_map,List.length_map,aK];unfold hF;by_cases c0:40 < des.length
 ·rw [if_pos (by omega),if_pos c0];rfl
 ·rw [if_neg (by omega),if_neg c0,z7,af,MD]
  refine (anK (by omega) (fun _ _=>rfl) des 0 aE rfl (Nat.zero_le _) (by omega)).trans ?_;by_cases c1:des.all nA=true
  ·rw [if_pos c1,if_pos c1,aK]
   by_cases c2:des.length < gr.length
   ·rw [if_pos (by omega),if_pos c2];rfl
   ·rw [if_neg (by omega),if_neg c2,A5,af,Om]
    refine (aom hg (fun _ _=>rfl) gr 0 aE rfl (Nat.zero_le _) (by omega)).trans ?_;by_cases c3:grL gr=0
    ·rw [if_pos c3,if_pos c3,Mb.f8_eq,cI]
     by_cases c4:0<=er/\er<=1000
     ·rw [if_pos c4,if_pos c4,AZ,af,Oi]
      refine (asm c4.1 c4.2 (by omega) (by omega) (aAZ c3) (Y:=fun A=>k (A.map rL) 0) (fun _ _ _=>rfl) des gr 0 aE [] rfl rfl (Nat.zero_le _) (by omega) rfl c1).trans ?_;by_cases c5:(des.drop gr.length).all (vJ er)=true
      ·rw [if_pos c5,if_pos c5,List.nil_append]
      ·rw [if_neg c5,if_neg c5];rfl
     ·rw [if_neg c4,if_neg c4];rfl
    ·rw [if_neg c3,if_neg c3];rfl
  ·rw [if_neg c1,if_neg c1];rfl
def aaO (des:List D3)(gr:List (Int × Int))(er:Int)(ds:List Dm)(oi ol:Int):(Int × Int × Int × Int) × Int:=
 if (hF des gr er).1=0 then
  (if ky ds (hF des gr er).2 oi ol=0 then (me (hF des gr er).2 oi ol ds 2 0,0) else ((0,0,0,0),ky ds (hF des gr er).2 oi ol))
 else ((0,0,0,0),(hF des gr er).1)
def KR (k:Int->Int->Int->Int->Int->Option α)(u:(Int × Int × Int × Int) × Int):Option α:=k u.1.1 u.1.2.1 u.1.2.2.1 u.1.2.2.2 u.2
theorem axX {des:List D3}{gr:List (Int × Int)}{er:Int}{ds:List Dm}{oi ol:Int}(hg:gr.length<=100){k:Int->Int->Int->Int->Int->Option α} :
  LI α (des.map rT3) (gr.map rT2) er (ds.map rD) oi ol k=KR k (aaO des gr er ds oi ol):=by
 rw [LI,af,acn,aiX hg,bo];unfold aaO;by_cases c:(hF des gr er).1=0
 ·rw [if_pos c,if_pos c]
  refine (azr (k:=fun e=>cK (e != 0) (k 0 0 0 0 e) (Hl α (ds.map rD) ((hF des gr er).2.map rL) oi ol fun x11 x12 x13 x14 x15=>k x11 x13 x14 x15 0))).trans ?_;rw [bo];by_cases c2:ky ds (hF des gr er).2 oi ol=0
  ·rw [if_pos c2,if_pos c2]
   obtain⟨tr,e⟩:=axO (α:=α) c2 (k:=fun x11 x12 x13 x14 x15=>k x11 x13 x14 x15 0);rw [e];rfl
  ·rw [if_neg c2,if_neg c2];rfl
 ·rw [if_neg c,if_neg c];rfl
theorem aeV {des:List D3}{gr:List (Int × Int)}{er:Int}{ds:List Dm}{oi ol:Int}(hg:gr.length<=100){k:Int->Int->Int->Int->Int->Option α} :
  EU α (des.map rT3) (gr.map rT2) er (ds.map rD) oi ol k=KR k (aaO des gr er ds oi ol):=by
 rw [EU,af,alA,ajJ hg,bo];unfold aaO;by_cases c:(hF des gr er).1=0
 ·rw [if_pos c,if_pos c]
  obtain⟨tr,e⟩:=azP (α:=α) (ds:=ds) (ls:=(hF des gr er).2) (oi:=oi) (ol:=ol) (k:=fun x9 x10 x11 x12 x13 x14=>k x9 x11 x12 x13 x14);rw [e];by_cases c2:ky ds (hF des gr er).2 oi ol=0
  ·rw [if_pos c2,if_pos c2];rfl
  ·rw [if_neg c2,if_neg c2];rfl
 ·rw [if_neg c,if_neg c];rfl
set_option linter.unusedSectionVars false
def axA (des:List D3)(gr:List (Int × Int))(er:Int)(ds:List Dm)(oi ol:Int):Bool:=(aaO des gr er ds oi ol).2 == 0 && (aaO des gr er ds oi ol).1.1 == 2
theorem afV {a b:Int}{k:Bool->Option α}:cK (a == 0) (k (b == 2)) (k false)=k (a == 0 && b == 2):=by
 cases h:(a == 0)
 ·rfl
 ·rfl
theorem awv {des:List D3}{gr:List (Int × Int)}{er:Int}{ds:List Dm}{oi ol:Int}(hg:gr.length<=100){k:Bool->Option α}:FC α (des.map rT3) (gr.map rT2) er (ds.map rD) oi ol k=k (axA des gr er ds oi ol):=by
 rw [FC,af,alv,aeV hg];exact afV
theorem axC {des:List D3}{gr:List (Int × Int)}{er:Int}{ds:List Dm}{oi ol:Int}(hg:gr.length<=100){k:Bool->Option α}:HK α (des.map rT3) (gr.map rT2) er (ds.map rD) oi ol k=k (axA des gr er ds oi ol):=by
 rw [HK,af,akC,axX hg];exact afV
def fO (des:List D3)(i:Nat)(x:D3)(t:Int):List D3:=des.set i (x.1,x.2.1,t)
theorem aju (des:List D3)(i:Nat)(x:D3)(s t:Int):fO (fO des i x s) i x t=fO des i x t:=List.set_set ..
theorem afo (des:List D3)(i:Nat)(x:D3)(t:Int):(fO des i x t).length=des.length:=List.length_set ..
theorem yj {des:List D3}{i:Nat}{x:D3}(h:des[i]?=some x):fO des i x x.2.2=des:=by
 obtain⟨h1,h2⟩:=List.getElem?_eq_some_iff.1 h;unfold fO;rw [<- h2];exact List.set_getElem_self h1
theorem ahc {des:List D3}{i:Nat}{x:D3}(h:i < des.length)(s:Int):(fO des i x s)[i]?=some (x.1,x.2.1,s):=by
 unfold fO;rw [List.getElem?_set_self h]
theorem KZ {l:List D3}{i:Nat}{y:D3}(h:l[i]?=some y):cu (l.map rT3) i=rT3 y:=by
 unfold cu;rw [List.getD_eq_getElem?_getD,List.getElem?_map,h];rfl
theorem awW {l:List D3}{i:Nat}(h:i < l.length){x:Option α}:ixK (l.map rT3) (i:Int) 3 x=x:=by
 unfold ixK;have:decide (0<=(i:Int)/\(i:Int) < ((l.map rT3).length:Nat)/\(cu (l.map rT3) (i:Int).toNat).length=3)=true:=by
  refine decide_eq_true ⟨by omega,by rw [List.length_map];omega,?_⟩;rw [Int.toNat_natCast,KZ (List.getElem?_eq_getElem h)];rfl
 rw [this]
theorem axz {l:List D3}{i:Nat}(h:i < l.length){x:Option α}:stK (l.map rT3) i 2 1 x=x:=by
 unfold stK;have:decide (i < (l.map rT3).length/\2+1<=(cu (l.map rT3) i).length)=true:=by
  refine decide_eq_true ⟨by rw [List.length_map];exact h,?_⟩;rw [KZ (List.getElem?_eq_getElem h)];show 2+1<=3;omega
 rw [this]
theorem aen {des:List D3}{i:Nat}{x:D3}(h:i < des.length)(s t:Int):List.set ((fO des i x s).map rT3) i (splice (cu ((fO des i x s).map rT3) i) 2 [DC.v (.int .i64 t)])=(fO des i x t).map rT3:=by
 rw [KZ (ahc h s),<- aju des i x s t];show List.set ((fO des i x s).map rT3) i (rT3 (x.1,x.2.1,t))=((fO des i x s).set i (x.1,x.2.1,t)).map rT3;rw [List.map_set]
def Ey (f:Int->Bool)(own:Int):Nat->Nat->Option Int
 | 0,_=>none
 | m+1,a=>if f (own - (a:Int))=true then some (own - (a:Int)) else if f (own+(a:Int))=true then some (own+(a:Int)) else Ey f own m (a+1)
theorem Me {f:Int->Bool}{own t:Int}:∀ (m a:Nat),Ey f own m a=some t->f t=true
 | 0,_,h=>by cases h
 | m+1,a,h=>by
  unfold Ey at h;by_cases c1:f (own - (a:Int))=true
  ·rw [if_pos c1,zaI] at h;rw [<- h];exact c1
  ·rw [if_neg c1] at h
   by_cases c2:f (own+(a:Int))=true
   ·rw [if_pos c2,zaI] at h;rw [<- h];exact c2
   ·rw [if_neg c2] at h;exact Me m (a+1) h
def kI (des:List D3)(gr:List (Int × Int))(er:Int)(ds:List Dm)(oi ol:Int)(i:Nat)(x:D3)(t:Int):Bool:=decide (0<=t/\t<=1000000) && axA (fO des i x t) gr er ds oi ol
section
variable {des:List D3}{gr:List (Int × Int)}{er:Int}{ds:List Dm}{oi ol:Int}{i:Nat}{x:D3}(hg:gr.length<=100)(hi:i < des.length)(h40:des.length<=40)(hx:0<=x.2.2/\x.2.2<=1000000)
include hg hi h40 hx
theorem adE {t s:Int}{K1:Option α}{kn:ae->Option α} :
  lD α t 0 1000000 (fun (x57:Bool)=>cK (!x57)
     (kn ((fO des i x s).map rT3))
     (ixK ((fO des i x s).map rT3) (i:Int) 3
      (stK ((fO des i x s).map rT3) (Int.toNat (i:Int)) 2 1
       (FC α (List.set ((fO des i x s).map rT3) (Int.toNat (i:Int)) (splice (cu ((fO des i x s).map rT3) (Int.toNat (i:Int))) 2 [DC.v (.int .i64 t)])) (gr.map rT2) er (ds.map rD) oi ol
        (fun (x58:Bool)=>cK x58
         K1
         (kn (List.set ((fO des i x s).map rT3) (Int.toNat (i:Int)) (splice (cu ((fO des i x s).map rT3) (Int.toNat (i:Int))) 2 [DC.v (.int .i64 t)]))))))))=
   if kI des gr er ds oi ol i x t=true then K1 else if 0<=t/\t<=1000000 then kn ((fO des i x t).map rT3) else kn ((fO des i x s).map rT3):=by
 have hl:i < (fO des i x s).length:=by rw [afo];exact hi
 rw [oK,cI,Int.toNat_natCast,awW hl,axz hl,aen hi s t,awv hg,oA];unfold kI;by_cases c:0<=t/\t<=1000000
 ·rw [if_pos c,if_pos c,decide_eq_true c,Bool.true_and]
 ·rw [if_neg c,if_neg c,decide_eq_false c,Bool.false_and,if_neg (by decide)]
theorem amZ {k1:Int->Option α}{k2:Int->Bool->ae->Option α}{Y:ae->Option α}(h2:∀ a b r,k2 a b r=Y r)(lo hi':Int):∀ (n:Nat) (s:Int),3<=n ->
  ∃ s',gV α (i:Int) lo hi' (gr.map rT2) er (ds.map rD) oi ol k1 k2 n 0 ((fO des i x s).map rT3)=
   if kI des gr er ds oi ol i x lo=true then k1 lo else if kI des gr er ds oi ol i x hi'=true then k1 hi' else Y ((fO des i x s').map rT3):=by
 intro n s hn;obtain⟨n,rfl⟩:∃ n',n=n'+3:=⟨n - 3,by omega⟩
 have w1:w64 (0+1)=1:=by decide
 have w2:w64 (1+1)=2:=by decide
 have last:∀ (n:Nat) (s:Int),gV α (i:Int) lo hi' (gr.map rT2) er (ds.map rD) oi ol k1 k2 (n+1) 2 ((fO des i x s).map rT3)=Y ((fO des i x s).map rT3):=by
  intro n s;rw [gV];simp only [qz];rw [decide_eq_false (by decide),al,h2]
 have two:∀ (s:Int),∃ s',gV α (i:Int) lo hi' (gr.map rT2) er (ds.map rD) oi ol k1 k2 (n+2) 1 ((fO des i x s).map rT3)=if kI des gr er ds oi ol i x hi'=true then k1 hi' else Y ((fO des i x s').map rT3):=by
  intro s;rw [gV];simp only [qz];rw [decide_eq_true (by decide),ap,ne,af,Dq,show ((1:Int) == 1)=true from rfl,ap,w2];have:=adE (α:=α) hg hi h40 hx (er:=er) (ds:=ds) (oi:=oi) (ol:=ol) (t:=hi') (s:=s) (K1:=k1 hi') (kn:=fun r=>gV α (i:Int) lo hi' (gr.map rT2) er (ds.map rD) oi ol k1 k2 (n+1) 2 r);rw [this,last,last];by_cases c:0<=hi'/\hi'<=1000000
  ·exact⟨hi',by rw [if_pos c]⟩
  ·exact⟨s,by rw [if_neg c]⟩
 rw [gV];simp only [qz];rw [decide_eq_true (by decide),ap,ne,af,Dq,show ((0:Int) == 1)=false from rfl,al,show ((0:Int) == 0)=true from rfl,ap,w1];have:=adE (α:=α) hg hi h40 hx (er:=er) (ds:=ds) (oi:=oi) (ol:=ol) (t:=lo) (s:=s) (K1:=k1 lo) (kn:=fun r=>gV α (i:Int) lo hi' (gr.map rT2) er (ds.map rD) oi ol k1 k2 (n+2) 1 r);rw [this];by_cases c:0<=lo/\lo<=1000000
 ·obtain⟨s',e⟩:=two lo
  exact⟨s',by rw [if_pos c,e]⟩
 ·obtain⟨s',e⟩:=two s
  exact⟨s',by rw [if_neg c,e]⟩
theorem apx {N:Nat}(hN:N<=100){k1:Int->Option α}{k2:Int->Bool->ae->Option α}{Y:Option α}(h2:∀ a b r,k2 a b r=Y):∀ (m a n:Nat) (s:Int),a+m=N->m < n ->
  kp α (i:Int) x.2.2 (N:Int) (gr.map rT2) er (ds.map rD) oi ol k1 k2 n (a:Int) ((fO des i x s).map rT3)=match Ey (kI des gr er ds oi ol i x) x.2.2 m a with | some t=>k1 t | none=>Y:=by
 intro m
 induction m with
 | zero=>
  intro a n s ha hn;obtain⟨n,rfl⟩:∃ n',n=n'+1:=⟨n - 1,by omega⟩
  rw [kp];simp only [tD];rw [decide_eq_false (by omega),al,h2];rfl
 | succ m ih=>
  intro a n s ha hn;obtain⟨n,rfl⟩:∃ n',n=n'+1:=⟨n - 1,by omega⟩
  rw [kp];simp only [tD];rw [decide_eq_true (by omega),ap,wE,af,Ot,aj (n:=x.2.2 - (a:Int)) (by omega) (by omega),aj (n:=x.2.2+(a:Int)) (by omega) (by omega),
   show w64 ((a:Int)+1)=((a+1:Nat):Int) by rw [aj (by omega) (by omega)];omega]
  obtain⟨s',e⟩:=amZ (α:=α) hg hi h40 hx (er:=er) (ds:=ds) (oi:=oi) (ol:=ol) (k1:=fun x59=>k1 x59) (k2:=fun x60 x61 x62=>kp α (i:Int) x.2.2 (N:Int) (gr.map rT2) er (ds.map rD) oi ol k1 k2 n ((a+1:Nat):Int) x62) (Y:=fun r=>kp α (i:Int) x.2.2 (N:Int) (gr.map rT2) er (ds.map rD) oi ol k1 k2 n ((a+1:Nat):Int) r) (fun _ _ _=>rfl) (x.2.2 - (a:Int)) (x.2.2+(a:Int)) aE s (by have:=bz;omega);rw [e,Ey];by_cases c1:kI des gr er ds oi ol i x (x.2.2 - (a:Int))=true
  ·rw [if_pos c1,if_pos c1]
  ·rw [if_neg c1,if_neg c1]
   by_cases c2:kI des gr er ds oi ol i x (x.2.2+(a:Int))=true
   ·rw [if_pos c2,if_pos c2]
   ·rw [if_neg c2,if_neg c2]
    exact ih (a+1) n s' (by omega) (by omega)
theorem ax8 (hd:des[i]?=some x){t:Int}{k:ae->Option α}:Gp α (des.map rT3) (i:Int) t k=k ((fO des i x t).map rT3):=by
 have hc:Eu α (des.map rT3)=fun k=>k (des.map rT3):=by
  funext k;rw [Eu,af,PW,bO (uL (enc:=rT3) (fun _=>rfl) (by simp only [List.length_nil];omega) (by simp only [List.length_nil];omega)),List.nil_append]
 have:=aen (x:=x) hi x.2.2 t;rw [yj hd] at this;rw [Gp,af,ajU,hc,Int.toNat_natCast];dsimp only;rw [awW hi,axz hi,this]
theorem auu (hd:des[i]?=some x){a:Nat}(ha:a<=100){k1:Int->Option α}{k2:Int->Bool->Option α}{Y:Option α}(h2:∀ a b,k2 a b=Y):∀ (n:Nat),3<=n ->
  iX α (i:Int) (a:Int) (des.map rT3) (gr.map rT2) er (ds.map rD) oi ol k1 k2 n (-1)=
   if kI des gr er ds oi ol i x (x.2.2 - (a:Int))=true then k1 (x.2.2 - (a:Int)) else if kI des gr er ds oi ol i x (x.2.2+(a:Int))=true then k1 (x.2.2+(a:Int)) else Y:=by
 intro n hn;obtain⟨n,rfl⟩:∃ n',n=n'+3:=⟨n - 3,by omega⟩
 have w1:w64 (-1+2)=1:=by decide
 have w2:w64 (1+2)=3:=by decide
 have e1:w64 (x.2.2+w64 (-1*(a:Int)))=x.2.2 - (a:Int):=by rw [aj (n:=-1*(a:Int)) (by omega) (by omega),aj (by omega) (by omega)];omega
 have e2:w64 (x.2.2+w64 (1*(a:Int)))=x.2.2+(a:Int):=by rw [aj (n:=1*(a:Int)) (by omega) (by omega),aj (by omega) (by omega)];omega
 have body:∀ (t:Int) (K1 Z:Option α),cF α t 0 1000000 (fun (x35:Bool)=>cK x35
     (Gp α (des.map rT3) (i:Int) t
      (fun (x36:ae)=>HK α x36 (gr.map rT2) er (ds.map rD) oi ol
       (fun (x37:Bool)=>cK x37 K1 Z)))
     Z)=if kI des gr er ds oi ol i x t=true then K1 else Z:=by
  intro t K1 Z;rw [Mb.f8_eq,aK,ax8 hg hi h40 hx hd,axC hg,oA];unfold kI;by_cases c:0<=t/\t<=1000000
  ·rw [if_pos c,decide_eq_true c,Bool.true_and]
  ·rw [if_neg c,decide_eq_false c,Bool.false_and,if_neg (by decide)]
 have last:∀ (n:Nat),iX α (i:Int) (a:Int) (des.map rT3) (gr.map rT2) er (ds.map rD) oi ol k1 k2 (n+1) 3=Y:=by
  intro n;rw [iX];simp only [qg];rw [decide_eq_false (by decide),al,h2]
 have two:iX α (i:Int) (a:Int) (des.map rT3) (gr.map rT2) er (ds.map rD) oi ol k1 k2 (n+2) 1=if kI des gr er ds oi ol i x (x.2.2+(a:Int))=true then k1 (x.2.2+(a:Int)) else Y:=by
  rw [iX];simp only [qg];rw [decide_eq_true (by decide),ap,vE hd,e2,w2,last];exact body _ _ _
 rw [iX];simp only [qg];rw [decide_eq_true (by decide),ap,vE hd,e1,w1,two];exact body _ _ _
theorem amp (hd:des[i]?=some x){N:Nat}(hN:N<=100){k1:Int->Option α}{k2:Int->Bool->Option α}{Y:Option α}(h2:∀ a b,k2 a b=Y):∀ (m a n:Nat),a+m=N+1->m < n ->
  qr α (N:Int) (i:Int) (des.map rT3) (gr.map rT2) er (ds.map rD) oi ol k1 k2 n (a:Int)=match Ey (kI des gr er ds oi ol i x) x.2.2 m a with | some t=>k1 t | none=>Y:=by
 intro m
 induction m with
 | zero=>
  intro a n ha hn;obtain⟨n,rfl⟩:∃ n',n=n'+1:=⟨n - 1,by omega⟩
  rw [qr];simp only [vS];rw [decide_eq_false (by omega),al,h2];rfl
 | succ m ih=>
  intro a n ha hn;obtain⟨n,rfl⟩:∃ n',n=n'+1:=⟨n - 1,by omega⟩
  rw [qr];simp only [vS];rw [decide_eq_true (by omega),ap,tv,af,MZ,show w64 ((a:Int)+1)=((a+1:Nat):Int) by rw [aj (by omega) (by omega)];omega,ih (a+1) n (by omega) (by omega)];refine (auu (α:=α) hg hi h40 hx hd (show a<=100 by omega) (fun _ _=>rfl) aE (by have:=bz;omega)).trans ?_;rw [Ey];by_cases c1:kI des gr er ds oi ol i x (x.2.2 - (a:Int))=true
  ·rw [if_pos c1,if_pos c1]
  ·rw [if_neg c1,if_neg c1]
   by_cases c2:kI des gr er ds oi ol i x (x.2.2+(a:Int))=true
   ·rw [if_pos c2,if_pos c2]
   ·rw [if_neg c2,if_neg c2]
end
def Og (des:List D3)(gr:List (Int × Int))(er:Int)(ds:List Dm)(oi ol reach:Int):Int × Int:=
 if (hF des gr er).1=0 then
  match des[gr.length]? with
  | none=>(0,6)
  | some x=>if 0<=reach/\reach<=50 then (match Ey (kI des gr er ds oi ol gr.length x) x.2.2 (reach.toNat+1) 0 with | some t=>(t,0) | none=>(0,17)) else (0,2)
 else (0,(hF des gr er).1)
theorem alq {des:List D3}{gr:List (Int × Int)}{er:Int}(h:(hF des gr er).1=0):des.length<=40/\des.all nA=true/\gr.length<=des.length:=by
 obtain⟨h1,h2,_⟩:=awI h;refine⟨h1,h2,?_⟩;unfold hF at h;rw [if_neg (by omega),if_pos h2] at h;by_cases c:des.length < gr.length
 ·rw [if_pos c] at h;exact absurd h (show ¬ (12:Int)=0 by decide)
 ·omega
theorem acy {des:List D3}{i:Nat}{x:D3}(h:des.all nA=true)(hx:des[i]?=some x):0<=x.2.2/\x.2.2<=1000000:=by
 have:=List.all_eq_true.1 h x (List.mem_of_getElem? hx);exact (of_decide_eq_true this).2.2
theorem aFk {l:List D3}(h:l.length<=40):JE (l.map rT3)=true:=by
 unfold JE;rw [Bool.and_eq_true];refine⟨List.all_eq_true.2 fun r hr=>?_,decide_eq_true (by rw [List.length_map];omega)⟩;obtain⟨y,_,rfl⟩:=List.mem_map.1 hr;rfl
theorem awM {des:List D3}{gr:List (Int × Int)}{er:Int}{ds:List Dm}{oi ol reach:Int}(hg:gr.length<=100){k:Int->Int->Option α}:Fk α (des.map rT3) (gr.map rT2) er (ds.map rD) oi ol reach k=k (Og des gr er ds oi ol reach).1 (Og des gr er ds oi ol reach).2:=by
 have hf:=bz;rw [Fk,af,ags,ajJ hg,bo,List.length_map,List.length_map];unfold Og;by_cases c:(hF des gr er).1=0
 ·obtain⟨b1,b2,b3⟩:=alq c
  rw [if_pos c,if_pos c];cases hx:des[gr.length]? with
  | none=>
   have:=List.getElem?_eq_none_iff.1 hx;rw [beq_iff_eq.2 (show ((gr.length:Nat):Int)=(des.length:Int) by omega),ap]
  | some x=>
   have hi:=(List.getElem?_eq_some_iff.1 hx).1;rw [beq_eq_false_iff_ne.2 (show ((gr.length:Nat):Int) ≠ (des.length:Int) by omega),al,oK,cI];by_cases c2:0<=reach/\reach<=50
   ·simp only [if_pos c2]
    rw [vE hx];have hw:w64 (reach+1)=((reach.toNat+1:Nat):Int):=by rw [aj (by omega) (by omega)];omega
    show gK (JE (des.map rT3)) _=_;rw [bO (aFk b1),hw];dsimp only;rw [Ar,af,On];have:=apx (α:=α) hg hi b1 (acy b2 hx) (er:=er) (ds:=ds) (oi:=oi) (ol:=ol) (N:=reach.toNat+1) (by omega) (k1:=fun x64=>k x64 0) (k2:=fun _ _ _=>k 0 17) (fun _ _ _=>rfl) (reach.toNat+1) 0 aE x.2.2 (by omega) (by omega);rw [yj hx] at this;refine this.trans ?_;cases Ey (kI des gr er ds oi ol gr.length x) x.2.2 (reach.toNat+1) 0 <;> rfl
   ·simp only [if_neg c2]
 ·rw [if_neg c,if_neg c]
theorem awP {des:List D3}{gr:List (Int × Int)}{er:Int}{ds:List Dm}{oi ol reach:Int}(hg:gr.length<=100){k:Int->Int->Option α}:Gk α (des.map rT3) (gr.map rT2) er (ds.map rD) oi ol reach k=k (Og des gr er ds oi ol reach).1 (Og des gr er ds oi ol reach).2:=by
 have hf:=bz;rw [Gk,af,alC,aiX hg,bo,List.length_map,List.length_map];unfold Og;by_cases c:(hF des gr er).1=0
 ·obtain⟨b1,b2,b3⟩:=alq c
  rw [if_pos c,if_pos c];cases hx:des[gr.length]? with
  | none=>
   have:=List.getElem?_eq_none_iff.1 hx;rw [beq_iff_eq.2 (show ((gr.length:Nat):Int)=(des.length:Int) by omega),ap]
  | some x=>
   have hi:=(List.getElem?_eq_some_iff.1 hx).1;rw [beq_eq_false_iff_ne.2 (show ((gr.length:Nat):Int) ≠ (des.length:Int) by omega),al,Mb.f8_eq,cI];by_cases c2:0<=reach/\reach<=50
   ·simp only [if_pos c2]
    rw [A4,af,LO];have hm:reach=((reach.toNat:Nat):Int):=by omega
    rw [hm,Int.toNat_natCast];refine (amp (α:=α) hg hi b1 (acy b2 hx) hx (N:=reach.toNat) (by omega) (k1:=fun x42=>k x42 0) (k2:=fun _ _=>k 0 17) (fun _ _=>rfl) (reach.toNat+1) 0 aE (by omega) (by omega)).trans ?_;cases Ey (kI des gr er ds oi ol gr.length x) x.2.2 (reach.toNat+1) 0 <;> rfl
   ·simp only [if_neg c2]
 ·rw [if_neg c,if_neg c]
theorem aFU {k:Option α}:aoN α k=k:=rfl
theorem aI3 (des:List D3)(gr:List (Int × Int))(er:Int)(ds:List Dm)(oi ol reach:Int){k:Bool->Option α} :
  aia α (des.map rT3) (gr.map rT2) er (ds.map rD) oi ol reach k=k true:=by
 rw [aia,af,avh,aFU];obtain⟨b,hb,e⟩:=aqo (α:=α) (des:=des) (gr:=gr) (ds:=ds) (k:=fun x8=>cK (!x8)
    (k true)
    (cF α reach 4 50
     (fun (x9:Bool)=>cK x9
      (k true)
      (yX α (des.map rT3) (gr.map rT2) (ds.map rD)
       (fun (x10:ae) (x11:ae) (x12:ae)=>Fk α x10 x11 er x12 oi ol reach
        (fun (x13:Int) (x14:Int)=>Gk α (des.map rT3) (gr.map rT2) er (ds.map rD) oi ol reach
         (fun (x15:Int) (x16:Int)=>cK (x14 != x16)
          (k false)
          (cK (x13 != x15)
           (k false)
           (cK (x16 != 0)
            (k true)
            (yX α (des.map rT3) (gr.map rT2) (ds.map rD)
             (fun (x17:ae) (x18:ae) (x19:ae)=>ixK x17 (((gr.map rT2).length:Nat):Int) 3
              (stK x17 (Int.toNat (((gr.map rT2).length:Nat):Int)) 2 1
               (EU α (List.set x17 (Int.toNat (((gr.map rT2).length:Nat):Int)) (splice (cu x17 (Int.toNat (((gr.map rT2).length:Nat):Int))) 2 [DC.v (.int .i64 x13)])) x18 er x19 oi ol
                (fun (x20:Int) (x21:Int) (x22:Int) (x23:Int) (x24:Int)=>cK (x24 == 0)
                 (k (x20 == 2))
                 (k false)))))))))))))))
 refine e.trans ?_;clear e;cases b with
 | false=>rw [Bool.not_false,ap]
 | true=>
  obtain⟨h1,h2,h3⟩:=hb rfl;have hg:gr.length<=100:=by omega
  rw [Bool.not_true,al,Mb.f8_eq,aK];by_cases c:4<=reach/\reach<=50
  ·rw [if_pos c]
  ·rw [if_neg c,aiI (by omega) (by omega) (by omega),awM hg,awP hg]
   have nn:∀ z:Int,(z != z)=false:=fun z=>by simp
   rw [nn,al,nn,al,bo];by_cases c1:(Og des gr er ds oi ol reach).2=0
   ·rw [if_pos c1,aiI (by omega) (by omega) (by omega),List.length_map,Int.toNat_natCast]
    unfold Og at c1 ⊢;by_cases c2:(hF des gr er).1=0
    ·rw [if_pos c2] at c1 ⊢
     cases hx:des[gr.length]? with
     | none=>rw [hx] at c1;exact absurd c1 (show ¬ (6:Int)=0 by decide)
     | some x=>
      rw [hx] at c1;have hi:=(List.getElem?_eq_some_iff.1 hx).1;simp only at c1 ⊢;by_cases c3:0<=reach/\reach<=50
      ·rw [if_pos c3] at c1 ⊢
       cases ht:Ey (kI des gr er ds oi ol gr.length x) x.2.2 (reach.toNat+1) 0 with
       | none=>rw [ht] at c1;exact absurd c1 (show ¬ (17:Int)=0 by decide)
       | some t=>
        have hfit:=Me _ _ ht;unfold kI at hfit;rw [Bool.and_eq_true] at hfit;simp only;have hs:=aen (x:=x) hi x.2.2 t;rw [yj hx] at hs;rw [awW hi,axz hi,hs,aeV hg];refine afV.trans ?_;exact congrArg k hfit.2
      ·rw [if_neg c3] at c1;exact absurd c1 (show ¬ (2:Int)=0 by decide)
    ·rw [if_neg c2] at c1;exact absurd c1 c2
   ·rw [if_neg c1]
end Go.AM.K
