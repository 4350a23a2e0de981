/- Texts of one kind, put together. -/
import Derived.Test.YtffcelhcekillaaGreatYf
import Derived.Test.YtffcelhcekillaaGreatYd
import Derived.Test.YtffcelhcekillaaGreatRl
namespace Go.AM.K
set_option linter.unusedVariables false
set_option linter.unusedSimpArgs false
variable {α:Type}
theorem hH {a b:Int}(h1:bdI a)(h2:bdI b){k:Int->Option α}:dC α a b k=k (dy a b):=by
 unfold bdI at h1 h2;rw [dC,af,SQ,aj (by omega) (by omega),Mb.f91_eq (by decide) (by decide) (by omega) (by omega)];rfl
theorem JT {a b:Int}(h1:bdI a)(h2:bdI b){k:Bool->Option α}:ot α a b k=k (decide (hvP a b)):=by
 unfold bdI at h1 h2;rw [ot,af,Yf,aj (by omega) (by omega)];rfl
theorem JM {k:Option α}:jB α k=k:=by rw [jB,af,Rp]
theorem JK {x:Pc}(h:x.bd){k:Bool->Bool->Option α}:jV α x.w1 x.w2 x.s1 x.s2 k=k (decide (chE x=1)) (decide (chE x ≠ 0)):=by
 obtain⟨h1,h2,h3,h4⟩:=h;rw [jV,af,S4,wZ,af,FI,JT h1 h2,JT h3 h4];unfold bdI at h1 h2 h3 h4;rw [aj (n:=x.s2 - x.s1) (by omega) (by omega),aj (n:=x.w2 - x.w1) (by omega) (by omega)];have fin:∀ c:Prop,[Decidable c]->(if hvP x.s1 x.s2 then (2:Int) else 0)=chE x->ot α x.s1 x.s2 (fun x14=>k false x14)=k (decide (chE x=1)) (decide (chE x ≠ 0)):=by
  intro c _ e;rw [JT (show bdI x.s1 by unfold bdI;omega) (show bdI x.s2 by unfold bdI;omega),<- e];by_cases c:hvP x.s1 x.s2
  ·rw [if_pos c,decide_eq_true c];rfl
  ·rw [if_neg c,decide_eq_false c];rfl
 by_cases c1:hvP x.w1 x.w2
 ·rw [decide_eq_true c1,ap,aK]
  by_cases c3:x.s2 - x.s1<=x.w2 - x.w1
  ·have e:chE x=1:=by unfold chE;rw [if_pos ⟨c1,Or.inr c3⟩]
   rw [if_pos c3,e];rfl
  ·rw [if_neg c3,cM]
   by_cases c2:hvP x.s1 x.s2
   ·rw [if_pos c2]
    exact fin True (by unfold chE;exact (if_neg (fun h=>h.2.elim (fun g=>g c2) c3)).symm)
   ·have e:chE x=1:=by unfold chE;rw [if_pos ⟨c1,Or.inl c2⟩]
    rw [if_neg c2,e];rfl
 ·rw [decide_eq_false c1,al]
  exact fin True (by unfold chE;exact (if_neg (fun h=>c1 h.1)).symm)
theorem Xx {x:Pc}(h:x.bd){c:Int}{k:Int->Int->Int->Int->Option α}:ea α x.w1 x.w2 x.s1 x.s2 (decide (c=1)) k=k (x.cut c).1.w2 (x.cut c).1.s2 (x.cut c).2.w1 (x.cut c).2.s1:=by
 obtain⟨h1,h2,h3,h4⟩:=h;rw [ea,af,W5,vY,af,F9,aK,hH h1 h2,hH h1 h2,hH h3 h4,hH h3 h4];unfold Pc.cut;by_cases hc:c=1
 ·rw [if_pos hc,if_pos hc]
 ·rw [if_neg hc,if_neg hc]
def Pc.rt (x:Pc):Prop:=(1000<=x.w1/\x.w1<=x.w2/\x.w2<=200000)/\0<=x.s1/\x.s1<=x.s2/\x.s2<=9999
theorem afE {x:Pc}(h:x.rt):x.bd:=by
 unfold Pc.rt at h;unfold Pc.bd bdI;omega
theorem alU {x:Pc}(h:x.rt)(c:Int):(x.cut c).1.rt/\(x.cut c).2.rt:=by
 unfold Pc.rt at h;have m1:x.w1<=dy x.w1 x.w2/\dy x.w1 x.w2<=x.w2:=by unfold dy;omega
 have m2:x.s1<=dy x.s1 x.s2/\dy x.s1 x.s2<=x.s2:=by unfold dy;omega
 unfold Pc.cut;by_cases hc:c=1
 ·rw [if_pos hc]
  unfold Pc.rt;simp only;omega
 ·rw [if_neg hc]
  unfold Pc.rt;simp only;omega
theorem azR {x:Pc}(h:x.rt):x.mid.rt:=by
 unfold Pc.rt at h;have m1:x.w1<=dy x.w1 x.w2/\dy x.w1 x.w2<=x.w2:=by unfold dy;omega
 have m2:x.s1<=dy x.s1 x.s2/\dy x.s1 x.s2<=x.s2:=by unfold dy;omega
 show (1000<=dy x.w1 x.w2/\dy x.w1 x.w2<=dy x.w1 x.w2/\dy x.w1 x.w2<=200000)/\0<=dy x.s1 x.s2/\dy x.s1 x.s2<=dy x.s1 x.s2/\dy x.s1 x.s2<=9999;omega
theorem alG {lo hi a b:Int}(h1:a<=lo)(h2:lo<=hi)(h3:hi<=b):f4 lo hi a b=0:=by
 unfold f4;rw [if_pos (by omega),if_neg (by omega)]
theorem avL {d:Dm}{ls:List L5}{oi ol:Int}(h:ckA (j3 d ls oi ol)=0){x:Pc}(hx:x.rt):ckA (j3 (x.dm d) ls oi ol)=0:=by
 obtain⟨h1,h2,h3,h4,h5,h6,h7,h8⟩:=jY h;obtain⟨⟨a1,a2,a3⟩,a4,a5,a6⟩:=hx;have e1:f4 x.s1 x.s2 0 9999=0:=alG a4 a5 a6;have e2:f4 x.w1 x.w2 1000 200000=0:=alG a1 a2 a3;show ckA (⟨d.ix,x.s1,x.s2,d.pol,x.w1,x.w2,ls,oi,ol⟩:Ask)=0;have h1':5000<=d.ix/\d.ix<=80000:=h1;have h3':0<=d.pol/\d.pol<=1:=h3;have h5':ls.length<=40:=h5;have h6':lsE ls=0:=h6;have h7':5000<=oi/\oi<=80000:=h7;have h8':0<=ol/\ol<=80000:=h8;unfold ckA;dsimp only;rw [if_pos h1',if_pos e1,if_pos h3',if_pos e2,if_neg (by omega),if_pos h6',if_pos h7',if_pos h8']
abbrev DVK (α:Type):=ae->Bool->Int->Int->Int->Bool->Option α
abbrev anD:Type 1:=(α:Type)->ae->Bool->Int->Int->Int->Bool->ae->ae->Int->Int->Int->Int->Int->Int->Int->Int->DVK α->Option α
abbrev DJ0:Type 1:=(α:Type)->Int->Bool->(Bool->Option α)->Option α
abbrev DJ1:Type 1:=(α:Type)->Bool->Option α->Option α->Option α
noncomputable def FF (J0:DJ0)(J1:DJ1)(g:anD):anD:=fun α x1 x2 x3 x4 x5 x6 x7 x8 x9 x10 x11 x12 x13 x14 x15 x16 k1=>
 cK x2
  (k1 x1 x2 x3 x4 x5 x6)
  (dG x7 x11 [.int .i64,.int .i64,.int .i64,.int .i64,.int .i64,.int .i64,.int .i64,.int .i64,.int .i64]
   (fun (x17:Int) (x18:Int) (x19:Int) (x20:Int) (x21:Int) (x22:Int) (x23:Int) (x24:Int) (x25:Int)=>ed α x8 x9 x10 x17 x18 x19 x24 x25 x12 x13 x14 x15
    (fun (x26:Int)=>cK (x26 == 2)
     (gK (cy 1 8 x1 [[DC.v (.int .i64 0)]]) (k1 (x1++[[DC.v (.int .i64 0)]]) x2 x3 x4 x5 x6))
     (dC α x12 x13
      (fun (x27:Int)=>dC α x14 x15
       (fun (x28:Int)=>jB α
        (ed α x8 x9 x10 x17 x18 x19 x24 x25 x27 x27 x28 x28
         (fun (x29:Int)=>cK (x29 == 0)
          (k1 x1 true x11 x27 x28 x6)
          (jV α x12 x13 x14 x15
           (fun (x30:Bool) (x31:Bool)=>J0 α x16 x31
            (fun (x51:Bool)=>cK x51
             (k1 x1 x2 x3 x4 x5 true)
             (J1 α x30
              (gK (cy 1 8 x1 [[DC.v (.int .i64 1)]]) (ea α x12 x13 x14 x15 x30
               (fun (x73:Int) (x74:Int) (x75:Int) (x76:Int)=>g α (x1++[[DC.v (.int .i64 1)]]) x2 x3 x4 x5 x6 x7 x8 x9 x10 x11 x12 x73 x14 x74 (w64 (x16+1))
                (fun (x77:ae) (x78:Bool) (x79:Int) (x80:Int) (x81:Int) (x82:Bool)=>g α x77 x78 x79 x80 x81 x82 x7 x8 x9 x10 x11 x75 x13 x76 x15 (w64 (x16+1))
                 (fun (x83:ae) (x84:Bool) (x85:Int) (x86:Int) (x87:Int) (x88:Bool)=>k1 x83 x84 x85 x86 x87 x88)))))
              (gK (cy 1 8 x1 [[DC.v (.int .i64 2)]]) (ea α x12 x13 x14 x15 x30
               (fun (x89:Int) (x90:Int) (x91:Int) (x92:Int)=>g α (x1++[[DC.v (.int .i64 2)]]) x2 x3 x4 x5 x6 x7 x8 x9 x10 x11 x12 x89 x14 x90 (w64 (x16+1))
                (fun (x93:ae) (x94:Bool) (x95:Int) (x96:Int) (x97:Int) (x98:Bool)=>g α x93 x94 x95 x96 x97 x98 x7 x8 x9 x10 x11 x91 x13 x92 x15 (w64 (x16+1))
                 (fun (x99:ae) (x100:Bool) (x101:Int) (x102:Int) (x103:Int) (x104:Bool)=>k1 x99 x100 x101 x102 x103 x104)))))))))))))))))
def rS (f:anD)(n:Nat):Prop:=∀ (α:Type) (ds:List Dm) (d:Dm) (i:Nat) (ls:List L5) (oi ol:Int) (tr:ae) (a b c:Int) (op:Bool) (x:Pc) (k:DVK α),
 ds[i]?=some d->(0<=d.sh/\d.sh<=2)->ckA (j3 d ls oi ol)=0->x.rt->tr.length+2 ^ (n+1)<=1000 ->
 f α tr true a b c op (ds.map rD) (ls.map rL) oi ol (i:Int) x.w1 x.w2 x.s1 x.s2 (5 - (n:Int)) k=k tr true a b c op /\
 ∃ (tr':ae) (o:Bool),tr'.length < tr.length+2 ^ (n+1)/\f α tr false a b c op (ds.map rD) (ls.map rL) oi ol (i:Int) x.w1 x.w2 x.s1 x.s2 (5 - (n:Int)) k=
  match (vis d ls oi ol n x).1 with
  | none=>k tr' false a b c (op || (vis d ls oi ol n x).2)
  | some m=>k tr' true (i:Int) m.1 m.2 o
def ai9 (J:DJ0):Prop:=∀ (α:Type) (c:Int) (b:Bool) (k:Bool->Option α),J α c b k=if 5<=c then k true else k (!b)
def aC5 (J:DJ1):Prop:=∀ (α:Type) (b:Bool) (k1 k2:Option α),J α b k1 k2=if b=true then k1 else k2
theorem HW {d:Dm}(hs:0<=d.sh/\d.sh<=2){x:Pc}{ls:List L5}{oi ol:Int}(h:ckA (j3 d ls oi ol)=0)(hx:x.rt){k:Int->Option α}:ed α (ls.map rL) oi ol d.sh d.pol d.ix d.lo d.hi x.w1 x.w2 x.s1 x.s2 k=k (gx (x.dm d) ls oi ol):=UI (d:=x.dm d) hs (avL h hx)
theorem DE {d:Dm}(hs:0<=d.sh/\d.sh<=2){x:Pc}{ls:List L5}{oi ol:Int}(h:ckA (j3 d ls oi ol)=0)(hx:x.rt){k:Int->Option α}:ed α (ls.map rL) oi ol d.sh d.pol d.ix d.lo d.hi (dy x.w1 x.w2) (dy x.w1 x.w2) (dy x.s1 x.s2) (dy x.s1 x.s2) k=k (gx (x.mid.dm d) ls oi ol):=UI (d:=x.mid.dm d) hs (avL h (azR hx))
theorem qF {J0:DJ0}{J1:DJ1}{g:anD}{n:Nat}(hn:n < 5)(h0:ai9 J0)(h1:aC5 J1)(hg:rS g n):rS (sld (FF J0 J1 g)) (n+1):=by
 intro α ds d i ls oi ol tr a b c op x k hd hs hc hx ht;rw [af];unfold FF;refine⟨by rw [ap],?_⟩;have hp1:1<=2 ^ (n+1):=Nat.one_le_two_pow;have hp2:2 ^ (n+1+1)=2*2 ^ (n+1):=by rw [Nat.pow_succ];omega
 have hb:=afE hx;obtain⟨b1,b2,b3,b4⟩:=hb;rw [al,rm hd,HW hs hc hx,hH b1 b2,hH b3 b4,JM,DE hs hc hx,JK ⟨b1,b2,b3,b4⟩,h0,if_neg (by omega)];rw [vis];by_cases c1:gx (x.dm d) ls oi ol=2
 ·rw [beq_iff_eq.2 c1,ap,bR (ap8 (by omega) 0),if_pos c1]
  exact⟨tr++[[DC.v (.int .i64 0)]],false,by simp only [List.length_append,List.length_cons,List.length_nil];omega,by rw [Bool.or_false]⟩
 ·rw [beq_eq_false_iff_ne.2 c1,al,if_neg c1]
  by_cases c2:gx (x.mid.dm d) ls oi ol=0
  ·rw [beq_iff_eq.2 c2,ap,if_pos c2]
   exact⟨tr,op,by omega,rfl⟩
  ·rw [beq_eq_false_iff_ne.2 c2,al,if_neg c2,cM]
   by_cases c3:chE x=0
   ·rw [if_neg (fun h=>h c3),if_pos c3]
    exact⟨tr,false,by omega,by rw [Bool.or_true]⟩
   ·rw [if_pos c3,if_neg c3,h1]
    have hw:w64 (5 - ((n+1:Nat):Int)+1)=5 - (n:Int):=by rw [aj (by omega) (by omega)];omega
    obtain⟨q1,q2,q3,q4⟩:=Ar x (chE x);obtain⟨p1,p2⟩:=alU hx (chE x);have e105:∀ k:Int->Int->Int->Int->Option α,ea α x.w1 x.w2 x.s1 x.s2 (decide (chE x=1)) k=k (x.cut (chE x)).1.w2 (x.cut (chE x)).1.s2 (x.cut (chE x)).2.w1 (x.cut (chE x)).2.s1:=fun k=>Xx ⟨b1,b2,b3,b4⟩;simp only [e105,hw];have key:∀ v:Int,∃ (tr':ae) (o:Bool),tr'.length < tr.length+2 ^ (n+1+1) /\
      gK (cy 1 8 tr [[DC.v (.int .i64 v)]]) (g α (tr++[[DC.v (.int .i64 v)]]) false a b c op (ds.map rD) (ls.map rL) oi ol (i:Int) x.w1 (x.cut (chE x)).1.w2 x.s1 (x.cut (chE x)).1.s2 (5 - (n:Int))
       fun x77 x78 x79 x80 x81 x82=>g α x77 x78 x79 x80 x81 x82 (ds.map rD) (ls.map rL) oi ol (i:Int) (x.cut (chE x)).2.w1 x.w2 (x.cut (chE x)).2.s1 x.s2 (5 - (n:Int)) fun x83 x84 x85 x86 x87 x88=>k x83 x84 x85 x86 x87 x88)=
      match (if (vis d ls oi ol n (x.cut (chE x)).1).1=none then ((vis d ls oi ol n (x.cut (chE x)).2).1,(vis d ls oi ol n (x.cut (chE x)).1).2 || (vis d ls oi ol n (x.cut (chE x)).2).2) else vis d ls oi ol n (x.cut (chE x)).1).1 with
      | none=>k tr' false a b c (op || (if (vis d ls oi ol n (x.cut (chE x)).1).1=none then ((vis d ls oi ol n (x.cut (chE x)).2).1,(vis d ls oi ol n (x.cut (chE x)).1).2 || (vis d ls oi ol n (x.cut (chE x)).2).2) else vis d ls oi ol n (x.cut (chE x)).1).2)
      | some m=>k tr' true (i:Int) m.1 m.2 o:=by
     intro v;rw [bR (ap8 (by omega) v)];generalize x.cut (chE x)=y at *;rw [<- q1,<- q2,<- q3,<- q4];obtain⟨_,t1,o1,l1,r1⟩:=hg α ds d i ls oi ol (tr++[[DC.v (.int .i64 v)]]) a b c op y.1
      (fun x77 x78 x79 x80 x81 x82=>g α x77 x78 x79 x80 x81 x82 (ds.map rD) (ls.map rL) oi ol (i:Int) y.2.w1 y.2.w2 y.2.s1 y.2.s2 (5 - (n:Int)) fun x83 x84 x85 x86 x87 x88=>k x83 x84 x85 x86 x87 x88) hd hs hc p1
      (by simp only [List.length_append,List.length_cons,List.length_nil];omega)
     simp only [List.length_append,List.length_cons,List.length_nil] at l1;rw [r1];cases hv1:(vis d ls oi ol n y.1).1 with
     | some m=>
      rw [if_neg (fun h=>by cases h),hv1];obtain⟨s1,_⟩:=hg α ds d i ls oi ol t1 (i:Int) m.1 m.2 o1 y.2 (fun x83 x84 x85 x86 x87 x88=>k x83 x84 x85 x86 x87 x88) hd hs hc p2 (by omega);exact⟨t1,o1,by omega,s1⟩
     | none=>
      rw [if_pos rfl];simp only;obtain⟨_,t2,o2,l2,r2⟩:=hg α ds d i ls oi ol t1 a b c (op || (vis d ls oi ol n y.1).2) y.2 (fun x83 x84 x85 x86 x87 x88=>k x83 x84 x85 x86 x87 x88) hd hs hc p2 (by omega);rw [r2];cases hv2:(vis d ls oi ol n y.2).1 with
      | some m=>exact⟨t2,o2,by omega,rfl⟩
      | none=>exact⟨t2,o2,by omega,by rw [Bool.or_assoc]⟩
    by_cases cw:decide (chE x=1)=true
    ·simp only [if_pos cw]
     exact key 1
    ·simp only [if_neg cw]
     exact key 2
theorem yK {c:Int}{b:Bool}{k:Bool->Option α}:cK (decide (5<=c)) (k true) (k (!b))=if 5<=c then k true else k (!b):=aK
theorem aIh:ai9 vO:=fun α c b k=>by rw [vO,af,K5,yK]
theorem aFw:ai9 wG:=fun α c b k=>by rw [wG,af,Lm,yK]
theorem ax8:rS wP 0:=by
 intro α ds d i ls oi ol tr a b c op x k hd hs hc hx ht;rw [wP,af];refine⟨by rw [OW,ap],?_⟩;have hb:=afE hx;obtain⟨b1,b2,b3,b4⟩:=hb;rw [OW,al,rm hd,HW hs hc hx,hH b1 b2,hH b3 b4,JM,DE hs hc hx,JK ⟨b1,b2,b3,b4⟩,aIh,if_pos (by decide)];rw [vis];by_cases c1:gx (x.dm d) ls oi ol=2
 ·rw [beq_iff_eq.2 c1,ap,bR (ap8 (by omega) 0),if_pos c1]
  exact⟨tr++[[DC.v (.int .i64 0)]],false,by simp only [List.length_append,List.length_cons,List.length_nil];omega,by rw [Bool.or_false]⟩
 ·rw [beq_eq_false_iff_ne.2 c1,al,if_neg c1]
  by_cases c2:gx (x.mid.dm d) ls oi ol=0
  ·rw [beq_iff_eq.2 c2,ap,if_pos c2]
   exact⟨tr,op,by omega,rfl⟩
  ·rw [beq_eq_false_iff_ne.2 c2,al,if_neg c2,ap]
   exact⟨tr,false,by omega,by rw [Bool.or_true]⟩
theorem axL:rS uC 1:=by
 have h:uC=sld (FF wU ww wP):=rfl;rw [h];exact qF (by decide) (fun α c b k=>by rw [wU,af,NH,yK]) (fun α b k1 k2=>by rw [ww,af,KY,rH]) ax8
theorem aw0:rS tn 2:=by
 have h:tn=sld (FF wD tC uC):=rfl;rw [h];exact qF (by decide) (fun α c b k=>by rw [wD,af,K1,yK]) (fun α b k1 k2=>by rw [tC,af,Nd,rH]) axL
theorem azL:rS tA 3:=by
 have h:tA=sld (FF uF uo tn):=rfl;rw [h];exact qF (by decide) (fun α c b k=>by rw [uF,af,Lf,yK]) (fun α b k1 k2=>by rw [uo,af,L7,rH]) aw0
theorem PZ:rS pH 4:=by
 have h:pH=sld (FF vu vD tA):=rfl;rw [h];exact qF (by decide) (fun α c b k=>by rw [vu,af,K3,yK]) (fun α b k1 k2=>by rw [vD,af,NM,rH]) azL
theorem azz {ds:List Dm}{d:Dm}{i:Nat}(hd:ds[i]?=some d)(hs:0<=d.sh/\d.sh<=2){ls:List L5}{oi ol:Int}(hc:ckA (j3 d ls oi ol)=0)(hx:d.pc.rt)
  {k1:Bool->Int->Int->Int->Bool->Option α} {k2:DVK α} :
  ∃ (tr:ae) (o z:Bool),Ll α false 0 0 0 false (ds.map rD) (ls.map rL) oi ol (i:Int) d.w1 d.w2 d.s1 d.s2 0 k1 k2=
   match (vis d ls oi ol 5 d.pc).1 with
   | none=>if o=true then k1 false 0 0 0 (vis d ls oi ol 5 d.pc).2 else k2 tr false 0 0 0 (vis d ls oi ol 5 d.pc).2
   | some m=>if o=true then k1 true (i:Int) m.1 m.2 z else k2 tr true (i:Int) m.1 m.2 z:=by
 rw [Ll,af,adU];have hw:d.w1=d.pc.w1/\d.w2=d.pc.w2/\d.s1=d.pc.s1/\d.s2=d.pc.s2:=⟨rfl,rfl,rfl,rfl⟩
 obtain⟨w1,w2,w3,w4⟩:=hw;rw [w1,w2,w3,w4];clear w1 w2 w3 w4;generalize d.pc=x at *;have hb:=afE hx;obtain⟨b1,b2,b3,b4⟩:=hb;rw [al,rm hd,HW hs hc hx,hH b1 b2,hH b3 b4,JM,DE hs hc hx,JK ⟨b1,b2,b3,b4⟩,aFw,if_neg (by decide)];rw [vis];by_cases c1:gx (x.dm d) ls oi ol=2
 ·rw [beq_iff_eq.2 c1,ap,if_pos c1]
  exact⟨[[DC.v (.int .i64 0)]],false,false,rfl⟩
 ·rw [beq_eq_false_iff_ne.2 c1,al,if_neg c1]
  by_cases c2:gx (x.mid.dm d) ls oi ol=0
  ·rw [beq_iff_eq.2 c2,ap,if_pos c2]
   exact⟨[],true,false,rfl⟩
  ·rw [beq_eq_false_iff_ne.2 c2,al,if_neg c2,cM]
   by_cases c3:chE x=0
   ·rw [if_neg (fun h=>h c3),if_pos c3]
    exact⟨[],true,false,rfl⟩
   ·rw [if_pos c3,if_neg c3,zE,af,N3,rH]
    have hw:w64 (0+1)=5 - ((4:Nat):Int):=by decide
    obtain⟨q1,q2,q3,q4⟩:=Ar x (chE x);obtain⟨p1,p2⟩:=alU hx (chE x);have e105:∀ k:Int->Int->Int->Int->Option α,ea α x.w1 x.w2 x.s1 x.s2 (decide (chE x=1)) k=k (x.cut (chE x)).1.w2 (x.cut (chE x)).1.s2 (x.cut (chE x)).2.w1 (x.cut (chE x)).2.s1:=fun k=>Xx ⟨b1,b2,b3,b4⟩;simp only [e105,hw];have key:∀ v:Int,∃ (tr:ae) (o z:Bool),
      pH α [[DC.v (.int .i64 v)]] false 0 0 0 false (ds.map rD) (ls.map rL) oi ol (i:Int) x.w1 (x.cut (chE x)).1.w2 x.s1 (x.cut (chE x)).1.s2 (5 - ((4:Nat):Int))
       (fun x77 x78 x79 x80 x81 x82=>pH α x77 x78 x79 x80 x81 x82 (ds.map rD) (ls.map rL) oi ol (i:Int) (x.cut (chE x)).2.w1 x.w2 (x.cut (chE x)).2.s1 x.s2 (5 - ((4:Nat):Int)) fun x83 x84 x85 x86 x87 x88=>k2 x83 x84 x85 x86 x87 x88)=
      match (if (vis d ls oi ol 4 (x.cut (chE x)).1).1=none then ((vis d ls oi ol 4 (x.cut (chE x)).2).1,(vis d ls oi ol 4 (x.cut (chE x)).1).2 || (vis d ls oi ol 4 (x.cut (chE x)).2).2) else vis d ls oi ol 4 (x.cut (chE x)).1).1 with
      | none=>if o=true then k1 false 0 0 0 (if (vis d ls oi ol 4 (x.cut (chE x)).1).1=none then ((vis d ls oi ol 4 (x.cut (chE x)).2).1,(vis d ls oi ol 4 (x.cut (chE x)).1).2 || (vis d ls oi ol 4 (x.cut (chE x)).2).2) else vis d ls oi ol 4 (x.cut (chE x)).1).2
        else k2 tr false 0 0 0 (if (vis d ls oi ol 4 (x.cut (chE x)).1).1=none then ((vis d ls oi ol 4 (x.cut (chE x)).2).1,(vis d ls oi ol 4 (x.cut (chE x)).1).2 || (vis d ls oi ol 4 (x.cut (chE x)).2).2) else vis d ls oi ol 4 (x.cut (chE x)).1).2
      | some m=>if o=true then k1 true (i:Int) m.1 m.2 z else k2 tr true (i:Int) m.1 m.2 z:=by
     intro v;generalize x.cut (chE x)=y at *;rw [<- q1,<- q2,<- q3,<- q4];obtain⟨_,t1,o1,l1,r1⟩:=PZ α ds d i ls oi ol [[DC.v (.int .i64 v)]] 0 0 0 false y.1
      (fun x77 x78 x79 x80 x81 x82=>pH α x77 x78 x79 x80 x81 x82 (ds.map rD) (ls.map rL) oi ol (i:Int) y.2.w1 y.2.w2 y.2.s1 y.2.s2 (5 - ((4:Nat):Int)) fun x83 x84 x85 x86 x87 x88=>k2 x83 x84 x85 x86 x87 x88) hd hs hc p1
      (by simp only [List.length_cons,List.length_nil];decide)
     simp only [List.length_cons,List.length_nil] at l1;rw [r1];cases hv1:(vis d ls oi ol 4 y.1).1 with
     | some m=>
      rw [if_neg (fun h=>by cases h),hv1];obtain⟨s1,_⟩:=PZ α ds d i ls oi ol t1 (i:Int) m.1 m.2 o1 y.2 (fun x83 x84 x85 x86 x87 x88=>k2 x83 x84 x85 x86 x87 x88) hd hs hc p2 (by simp only [Nat.reduceAdd,Nat.reducePow] at l1 ⊢;omega);exact⟨t1,false,o1,s1⟩
     | none=>
      rw [if_pos rfl];simp only;obtain⟨_,t2,o2,l2,r2⟩:=PZ α ds d i ls oi ol t1 0 0 0 (false || (vis d ls oi ol 4 y.1).2) y.2 (fun x83 x84 x85 x86 x87 x88=>k2 x83 x84 x85 x86 x87 x88) hd hs hc p2 (by simp only [Nat.reduceAdd,Nat.reducePow] at l1 ⊢;omega);rw [r2];cases hv2:(vis d ls oi ol 4 y.2).1 with
      | some m=>exact⟨t2,false,o2,rfl⟩
      | none=>exact⟨t2,false,false,by rw [Bool.false_or,if_neg (by decide)]⟩
    by_cases cw:decide (chE x=1)=true
    ·simp only [if_pos cw]
     exact key 1
    ·simp only [if_neg cw]
     exact key 2
end Go.AM.K

namespace Go.AM.K
set_option linter.unusedVariables false
set_option linter.unusedSimpArgs false
variable {α:Type}
theorem azS {x:Int}{k:Bool->Option α}:Nr α x k=k (decide (5000<=x/\x<=80000)):=by rw [Nr,af,agx,Mb.f8_eq]
theorem arH {x:Int}{k:Bool->Option α}:si α x k=k (decide (0<=x/\x<=80000)):=by rw [si,af,KK,Mb.f8_eq]
theorem auP {a b lo hi:Int}{k:Bool->Option α}:yG α a b lo hi k=k (decide ((lo<=a/\a<=hi)/\lo<=b/\b<=hi)):=by
 simp only [yG,af,Yq,Mb.f8_eq,Ex]
theorem as8 {a b lo hi:Int}{k:Bool->Option α}:xA α a b lo hi k=k (decide ((lo<=a/\a<=hi)/\lo<=b/\b<=hi)):=by
 simp only [xA,af,R6,Mb.f8_eq,Ex]
theorem apU {x:Int}{k:Bool->Option α}:En α x k=k (decide (0<=x/\x<=1)):=by
 rw [En,af,Qa];by_cases c:x=0
 ·subst c;rfl
 ·rw [beq_eq_false_iff_ne.2 c,al]
  by_cases c1:x=1
  ·subst c1;rfl
  ·rw [beq_eq_false_iff_ne.2 c1,decide_eq_false (by omega)]
theorem axb (l:L5){k:Int->Option α}:LC α l.1 l.2.1 l.2.2.1 l.2.2.2.1 l.2.2.2.2 k=k (vW l):=by
 simp only [LC,af,ae2,auP,si,KK,Mb.f8_eq,cM,aK];unfold vW abz;by_cases h1:(5000<=l.1/\l.1<=80000)/\5000<=l.2.1/\l.2.1<=80000
 ·rw [if_pos h1]
  by_cases h2:(0<=l.2.2.1/\l.2.2.1<=1000000)/\0<=l.2.2.2.1/\l.2.2.2.1<=1000000
  ·rw [if_pos h2]
   by_cases h3:0<=l.2.2.2.2/\l.2.2.2.2<=80000
   ·rw [if_pos h3,if_pos (decide_eq_true ⟨h1,h2,h3⟩)]
    by_cases h4:l.2.1 < l.1
    ·rw [if_pos h4,if_pos h4]
    ·rw [if_neg h4,if_neg h4]
     by_cases h5:l.2.2.2.1 < l.2.2.1
     ·rw [if_pos h5,if_pos h5]
     ·rw [if_neg h5,if_neg h5]
   ·rw [if_neg h3,if_neg (fun h=>h3 (of_decide_eq_true h).2.2)]
  ·rw [if_neg h2,if_neg (fun h=>h2 (of_decide_eq_true h).2.1)]
 ·rw [if_neg h1,if_neg (fun h=>h1 (of_decide_eq_true h).1)]
theorem axz (d:Dm){k:Int->Option α}:Nq α d.sh d.pol d.ix d.s1 d.s2 d.w1 d.w2 d.lo d.hi k=k (ckD d):=by
 simp only [Nq,af,amf,Ky,Yo,apU,as8,Mb.f8_eq,cM,aK];unfold ckD;by_cases a1:0<=d.sh/\d.sh<=2
 ·rw [if_pos a1]
  by_cases a2:0<=d.pol/\d.pol<=1
  ·have hA:(0<=d.sh/\d.sh<=2)/\0<=d.pol/\d.pol<=1:=⟨a1,a2⟩
   rw [if_pos a2,if_pos hA];by_cases b1:5000<=d.ix/\d.ix<=80000
   ·rw [if_pos b1]
    by_cases b2:(0<=d.s1/\d.s1<=9999)/\0<=d.s2/\d.s2<=9999
    ·have hB:(5000<=d.ix/\d.ix<=80000)/\(0<=d.s1/\d.s1<=9999)/\0<=d.s2/\d.s2<=9999:=⟨b1,b2⟩
     rw [if_pos b2,if_pos hB];by_cases c3:d.s2 < d.s1
     ·rw [if_pos c3,if_pos c3]
     ·rw [if_neg c3,if_neg c3]
      by_cases c4:(1000<=d.w1/\d.w1<=200000)/\1000<=d.w2/\d.w2<=200000
      ·rw [if_pos c4,if_pos c4]
       by_cases c5:d.w2 < d.w1
       ·rw [if_pos c5,if_pos c5]
       ·rw [if_neg c5,if_neg c5]
        by_cases e1:0<=d.lo/\d.lo<=10000
        ·rw [if_pos e1]
         by_cases e2:0<=d.hi/\d.hi<=10000
         ·have hE:(0<=d.lo/\d.lo<=10000)/\0<=d.hi/\d.hi<=10000:=⟨e1,e2⟩
          rw [if_pos e2,if_pos hE];by_cases c7:d.hi < d.lo
          ·rw [if_pos c7,if_pos c7]
          ·rw [if_neg c7,if_neg c7]
         ·rw [if_neg e2,if_neg (fun h:(0<=d.lo/\d.lo<=10000)/\0<=d.hi/\d.hi<=10000=>e2 h.2)]
        ·rw [if_neg e1,if_neg (fun h:(0<=d.lo/\d.lo<=10000)/\0<=d.hi/\d.hi<=10000=>e1 h.1)]
      ·rw [if_neg c4,if_neg c4]
    ·rw [if_neg b2,if_neg (fun h:(5000<=d.ix/\d.ix<=80000)/\(0<=d.s1/\d.s1<=9999)/\0<=d.s2/\d.s2<=9999=>b2 h.2)]
   ·rw [if_neg b1,if_neg (fun h:(5000<=d.ix/\d.ix<=80000)/\(0<=d.s1/\d.s1<=9999)/\0<=d.s2/\d.s2<=9999=>b1 h.1)]
  ·rw [if_neg a2,if_neg (fun h:(0<=d.sh/\d.sh<=2)/\0<=d.pol/\d.pol<=1=>a2 h.2)]
 ·rw [if_neg a1,if_neg (fun h:(0<=d.sh/\d.sh<=2)/\0<=d.pol/\d.pol<=1=>a1 h.1)]
theorem ayC {ds:List Dm}(hA:ds.length<=8){k1:Int->Int->Option α}{k2:Int->Bool->Option α}{Y:Option α}{K:Int->Option α}(h1:∀ x e,k1 x e=K e)(h2:∀ x b,k2 x b=Y) :
  ∀ (rest:List Dm) (i n:Nat),ds.drop i=rest->i<=ds.length->rest.length < n ->
  p8 α (ds.map rD) k1 k2 n (i:Int)=if dsE rest=0 then Y else K (dsE rest):=by
 intro rest
 induction rest with
 | nil=>
  intro i n hd hi hn;obtain⟨n,rfl⟩:∃ n',n=n'+1:=⟨n - 1,by simp only [List.length_nil] at hn;omega⟩
  have hl:ds.length<=i:=List.drop_eq_nil_iff.1 hd;rw [p8];simp only [uS,List.length_map];rw [decide_eq_false (by omega),al,h2];rfl
 | cons d rs ih=>
  intro i n hd hi hn;obtain⟨n,rfl⟩:∃ n',n=n'+1:=⟨n - 1,by omega⟩
  obtain⟨hg,hd'⟩:=bT hd;have hl:i < ds.length:=(List.getElem?_eq_some_iff.1 hg).1;have hw:w64 ((i:Int)+1)=((i+1:Nat):Int):=by rw [aj (by omega) (by omega)];omega
  have hn':rs.length < n:=by simp only [List.length_cons] at hn;omega
  rw [p8];simp only [uS,List.length_map];rw [decide_eq_true (by omega),ap,rm hg,axz,bo,h1,hw,ih (i+1) n hd' (by omega) hn'];show _=if (if ckD d=0 then dsE rs else ckD d)=0 then Y else K (if ckD d=0 then dsE rs else ckD d);by_cases c:ckD d=0
  ·rw [if_pos c,if_pos c]
  ·rw [if_neg c,if_neg c,if_neg c]
theorem aw5 {ds:List Dm}{k:Int->Option α}:Oe α (ds.map rD) (fun _ e=>k e)=k (dms ds):=by
 simp only [Oe,af,akG,List.length_map,gS,aK];unfold dms;by_cases c1:ds.length=0
 ·rw [if_pos (by omega),if_pos c1]
 ·rw [if_neg (by omega),if_neg c1]
  by_cases c2:8 < ds.length
  ·rw [if_pos (by omega),if_pos c2]
  ·rw [if_neg (by omega),if_neg c2,AN,af,MR]
   have hf:ds.length < aF:=by have:=bC;omega
   refine (ayC (K:=k) (by omega) (fun _ _=>rfl) (fun _ _=>rfl) ds 0 aF rfl (Nat.zero_le _) hf).trans ?_;by_cases c:dsE ds=0
   ·rw [if_pos c,c]
   ·rw [if_neg c]
def onE (oi ol:Int):Int:=if 5000<=oi/\oi<=80000 then (if 0<=ol/\ol<=80000 then 0 else 2) else 2
theorem azV {L:List L5}{i:Nat}{l:L5}(h:L[i]?=some l){f:Int->Int->Int->Int->Int->Option α}:dG (L.map rL) (i:Int) [.int .i64,.int .i64,.int .i64,.int .i64,.int .i64] f=f l.1 l.2.1 l.2.2.1 l.2.2.2.1 l.2.2.2.2:=ON h
theorem avC {lo hi a b:Int}(h1:a<=lo/\lo<=b)(h2:a<=hi/\hi<=b)(h3:¬ hi < lo):f4 lo hi a b=0:=by
 unfold f4;rw [if_pos (by omega),if_neg h3]
theorem ayl {ls:List L5}(hA:ls.length<=40){k1:Int->Int->Option α}{k2:Int->Bool->Option α}{Y:Option α}{K:Int->Option α}(h1:∀ x e,k1 x e=K e)(h2:∀ x b,k2 x b=Y) :
  ∀ (rest:List L5) (i n:Nat),ls.drop i=rest->i<=ls.length->rest.length < n ->
  qL α (ls.map rL) k1 k2 n (i:Int)=if lsE rest=0 then Y else K (lsE rest):=by
 intro rest
 induction rest with
 | nil=>
  intro i n hd hi hn;obtain⟨n,rfl⟩:∃ n',n=n'+1:=⟨n - 1,by simp only [List.length_nil] at hn;omega⟩
  have hl:ls.length<=i:=List.drop_eq_nil_iff.1 hd;rw [qL];simp only [t9,List.length_map];rw [decide_eq_false (by omega),al,h2];rfl
 | cons l rs ih=>
  intro i n hd hi hn;obtain⟨n,rfl⟩:∃ n',n=n'+1:=⟨n - 1,by omega⟩
  obtain⟨hg,hd'⟩:=bT hd;have hl:i < ls.length:=(List.getElem?_eq_some_iff.1 hg).1;have hw:w64 ((i:Int)+1)=((i+1:Nat):Int):=by rw [aj (by omega) (by omega)];omega
  have hn':rs.length < n:=by simp only [List.length_cons] at hn;omega
  rw [qL];simp only [t9,List.length_map];rw [decide_eq_true (by omega),ap,azV hg,axb,bo,h1,hw,ih (i+1) n hd' (by omega) hn'];show _=if (if vW l=0 then lsE rs else vW l)=0 then Y else K (if vW l=0 then lsE rs else vW l);by_cases c:vW l=0
  ·rw [if_pos c,if_pos c]
  ·rw [if_neg c,if_neg c,if_neg c]
def ati (ls:List L5)(oi ol:Int):Int:=if 40 < ls.length then 8 else if lsE ls=0 then onE oi ol else lsE ls
theorem azs {ls:List L5}{oi ol:Int}{k:Int->Option α}:Gy α (ls.map rL) oi ol (fun _ e=>k e)=k (ati ls oi ol):=by
 rw [Gy,af,agN,List.length_map,aK];unfold ati;by_cases c0:40 < ls.length
 ·rw [if_pos (by omega),if_pos c0]
 ·have hf:ls.length < aF:=by have:=bC;omega
  rw [if_neg (by omega),if_neg c0,Aw,af,LI];refine (ayl (K:=k) (by omega) (fun _ _=>rfl) (fun _ _=>rfl) ls 0 aF rfl (Nat.zero_le _) hf).trans ?_;by_cases c1:lsE ls=0
  ·rw [if_pos c1,if_pos c1,azS,cM,arH,cM]
   unfold onE;by_cases c:5000<=oi/\oi<=80000
   ·rw [if_pos c,if_pos c]
    by_cases c2:0<=ol/\ol<=80000
    ·rw [if_pos c2,if_pos c2]
    ·rw [if_neg c2,if_neg c2]
   ·rw [if_neg c,if_neg c]
  ·rw [if_neg c1,if_neg c1]
theorem air {d:Dm}{ds:List Dm}(h:dms (d::ds)=0):ckD d=0:=(O5 h).2.2 d (List.mem_cons_self ..)
theorem OX {d:Dm}{ls:List L5}{oi ol:Int}(hd:ckD d=0):ckA (j3 d ls oi ol)=ati ls oi ol:=by
 obtain⟨⟨_,a1⟩,⟨a2,a3,a4⟩,a5,⟨a6,a7⟩,a8,_⟩:=OU hd;unfold ckA j3 ati onE;simp only;rw [if_pos a2,if_pos (avC a3 a4 a5),if_pos a1,if_pos (avC a6 a7 a8)];by_cases c:40 < ls.length
 ·rw [if_pos c,if_pos (by omega)]
 ·rw [if_neg c,if_neg (by omega)]
theorem axm {ds:List Dm}{ls:List L5}{oi ol:Int}{k:Int->Option α}:NG α (ds.map rD) (ls.map rL) oi ol (fun _ e=>k e)=k (j9 ds ls oi ol):=by
 rw [NG,af,aip];refine (aw5 (k:=fun e=>cK (e != 0) (k e) (Gy α (ls.map rL) oi ol fun x7 x8=>k x8))).trans ?_;rw [azs,bo];cases ds with
 | nil=>rfl
 | cons d r=>
  show _=k (if dms (d::r)=0 then ckA (j3 d ls oi ol) else dms (d::r));by_cases c:dms (d::r)=0
  ·rw [if_pos c,if_pos c,OX (air c)]
  ·rw [if_neg c,if_neg c]
theorem aiY {ds:List Dm}{ls:List L5}{oi ol:Int}(h:j9 ds ls oi ol=0):ds.length<=8/\∀ d ∈ ds,ckD d=0/\ckA (j3 d ls oi ol)=0:=by
 cases ds with
 | nil=>exact absurd h (show ¬ (12:Int)=0 by decide)
 | cons d r=>
  have hd:=h;unfold j9 axn at hd;simp only at hd;by_cases c:dms (d::r)=0
  ·rw [if_pos c] at hd
   obtain⟨a1,a2,a3⟩:=O5 c;rw [OX (air c)] at hd;exact⟨a1,fun x hx=>⟨a3 x hx,by rw [OX (a3 x hx)];exact hd⟩⟩
  ·rw [if_neg c] at hd;exact absurd hd c
theorem aDO {d:Dm}(h:ckD d=0):(0<=d.sh/\d.sh<=2)/\d.pc.rt:=by
 obtain⟨⟨h1,_⟩,⟨_,h2,h3⟩,h4,⟨h5,h6⟩,h7,_⟩:=OU h;unfold Pc.rt Dm.pc;simp only;omega
theorem azI {k:Option α}:LM α k=k:=by rw [LM,af,ah0]
theorem al3 {a b:Bool}{k:Bool->Option α}:mB α a b k=k (a || b):=by rw [mB,af,Ma];cases a <;> rfl
theorem aev {a b:Bool}{k:Bool->Option α}:mU α a b k=k (a || b):=by rw [mU,af,MB];cases a <;> rfl
theorem awO {ds:List Dm}{ls:List L5}{oi ol:Int}(hl:ds.length<=8){k1:Int->Int->Int->Option α}{k2:Bool->Int->Bool->ae->Option α}{K:Int->ae->Int->Int->Int->Option α}
  (h1:∀ i w s,k1 i w s=K 0 [] i w s) (h2:∀ o i b tr,k2 o i b tr=if o=true then K 1 [] 0 0 0 else K 2 tr 0 0 0) :
  ∀ (rest:List Dm) (i n:Nat) (o:Bool) (tr:ae),(∀ d ∈ rest,ckD d=0/\ckA (j3 d ls oi ol)=0)->ds.drop i=rest->i<=ds.length->rest.length < n->tr.length=i ->
  ∃ tr',mZ α (ds.map rD) (ls.map rL) oi ol k1 k2 n o (i:Int) tr=K (mh ls oi ol rest (if o=true then 1 else 2) i).1 tr' (mh ls oi ol rest (if o=true then 1 else 2) i).2.1 (mh ls oi ol rest (if o=true then 1 else 2) i).2.2.1 (mh ls oi ol rest (if o=true then 1 else 2) i).2.2.2:=by
 intro rest
 induction rest with
 | nil=>
  intro i n o tr hc hd hi hn ht;obtain⟨n,rfl⟩:∃ n',n=n'+1:=⟨n - 1,by simp only [List.length_nil] at hn;omega⟩
  have hl:ds.length<=i:=List.drop_eq_nil_iff.1 hd;rw [mZ];simp only [v6,List.length_map];rw [decide_eq_false (by omega),al,h2];cases o
  ·exact⟨tr,rfl⟩
  ·exact⟨[],rfl⟩
 | cons d rs ih=>
  intro i n o tr hc hd hi hn ht;obtain⟨n,rfl⟩:∃ n',n=n'+1:=⟨n - 1,by omega⟩
  obtain⟨hg,hd'⟩:=bT hd;have hl':i < ds.length:=(List.getElem?_eq_some_iff.1 hg).1;have hw:w64 ((i:Int)+1)=((i+1:Nat):Int):=by rw [aj (by omega) (by omega)];omega
  have hn':rs.length < n:=by simp only [List.length_cons] at hn;omega
  obtain⟨c1,c2⟩:=hc d (List.mem_cons_self ..);obtain⟨c3,c4⟩:=aDO c1;rw [mZ];simp only [v6,List.length_map];rw [decide_eq_true (by omega),ap,vB,af,OK,rm hg,azI];have ih':=fun o tr' ht=>ih (i+1) n o tr' (fun d hd=>hc d (List.mem_cons_of_mem _ hd)) hd' (by omega) hn' ht;generalize hR:mZ α (ds.map rD) (ls.map rL) oi ol k1 k2 n=R at *;obtain⟨t,z,z2,e⟩:=azz (α:=α) hg c3 c2 c4
   (k1:=fun x52 x53 x54 x55 x56=>cK x52 (k1 x53 x54 x55) (mB α o x56 fun x82=>gK (cy 1 24 tr [[DC.sl ([]:ae)]]) (R x82 (w64 ((i:Int)+1)) (tr++[[DC.sl ([]:ae)]]))))
   (k2:=fun x62 x57 x58 x59 x60 x61=>cK x57 (k1 x58 x59 x60) (mU α o x61 fun x102=>gK (cy 1 24 tr [[DC.sl x62]]) (R x102 (w64 ((i:Int)+1)) (tr++[[DC.sl x62]]))))
  refine Exists.imp (fun _ h=>e.trans h) ?_;clear e;rw [mh];cases hv:(vis d ls oi ol 5 d.pc).1 with
  | some m=>
   simp only;refine⟨[],?_⟩;by_cases c:z=true
   ·rw [if_pos c,ap,h1]
   ·rw [if_neg c,ap,h1]
  | none=>
   simp only;have ho:(if (vis d ls oi ol 5 d.pc).2=true then (1:Int) else (if o=true then 1 else 2))=if (o || (vis d ls oi ol 5 d.pc).2)=true then 1 else 2:=by
    cases o <;> cases (vis d ls oi ol 5 d.pc).2 <;> rfl
   rw [ho];by_cases c:z=true
   ·rw [if_pos c,al,al3,bR (acq (by omega) _),hw]
    exact ih' _ _ (by simp only [List.length_append,List.length_cons,List.length_nil];omega)
   ·rw [if_neg c,al,aev,bR (acq (by omega) _),hw]
    exact ih' _ _ (by simp only [List.length_append,List.length_cons,List.length_nil];omega)
theorem azq {ds:List Dm}{ls:List L5}{oi ol:Int}(h:j9 ds ls oi ol=0){k:Int->ae->Int->Int->Int->Option α} :
  ∃ tr,Fg α (ds.map rD) (ls.map rL) oi ol k=k (mh ls oi ol ds 2 0).1 tr (mh ls oi ol ds 2 0).2.1 (mh ls oi ol ds 2 0).2.2.1 (mh ls oi ol ds 2 0).2.2.2:=by
 obtain⟨h1,h2⟩:=aiY h;have hf:ds.length < aF:=by have:=bC;omega
 rw [Fg,af,adL,z9,af,Mn];exact awO h1 (K:=k) (fun _ _ _=>rfl) (fun o _ _ tr=>by rw [rH]) ds 0 aF false [] h2 rfl (Nat.zero_le _) hf rfl
theorem axU {a b lo hi:Int}{k:Int->Option α}:Mx α a b lo hi k=k (f4 a b lo hi):=by
 rw [Mx,af,acZ,Mb.f8_eq,cM,Mb.f8_eq,cM,aK];unfold f4;by_cases c1:lo<=a/\a<=hi
 ·rw [if_pos c1]
  by_cases c2:lo<=b/\b<=hi
  ·have c12:(lo<=a/\a<=hi)/\lo<=b/\b<=hi:=⟨c1,c2⟩
   rw [if_pos c2,if_pos c12];by_cases c3:b < a
   ·rw [if_pos c3,if_pos c3]
   ·rw [if_neg c3,if_neg c3]
  ·rw [if_neg c2,if_neg (fun h=>c2 h.2)]
 ·rw [if_neg c1,if_neg (fun h=>c1 h.1)]
theorem apn {l:List D3}(hl:l.length<=100){k1 Y:Option α}{k2:Int->Bool->Option α}(h2:∀ x b,k2 x b=Y) :
  ∀ (rest:List D3) (i n:Nat),l.drop i=rest->i<=l.length->rest.length < n->qN α (l.map rT3) k1 k2 n (i:Int)=if rest.all zv=true then Y else k1:=by
 intro rest
 induction rest with
 | nil=>
  intro i n hd hi hn;obtain⟨n,rfl⟩:∃ n',n=n'+1:=⟨n - 1,by simp only [List.length_nil] at hn;omega⟩
  have hl:l.length<=i:=List.drop_eq_nil_iff.1 hd;rw [qN];simp only [t6,List.length_map];rw [decide_eq_false (by omega),al,h2];rfl
 | cons x rs ih=>
  intro i n hd hi hn;obtain⟨n,rfl⟩:∃ n',n=n'+1:=⟨n - 1,by omega⟩
  obtain⟨hg,hd'⟩:=bT hd;have hl':i < l.length:=(List.getElem?_eq_some_iff.1 hg).1;have hw:w64 ((i:Int)+1)=((i+1:Nat):Int):=by rw [aj (by omega) (by omega)];omega
  have hn':rs.length < n:=by simp only [List.length_cons] at hn;omega
  rw [qN];simp only [t6,List.length_map];rw [decide_eq_true (by omega),ap,E0 hg,Mb.f8_eq,cM,Mb.f8_eq,cM,Mb.f8_eq,cM,hw,ih (i+1) n hd' (by omega) hn'];simp only [List.all_cons,Bool.and_eq_true];by_cases c1:5000<=x.1/\x.1<=80000
  ·rw [if_pos c1]
   by_cases c2:0<=x.2.1/\x.2.1<=80000
   ·rw [if_pos c2]
    by_cases c3:0<=x.2.2/\x.2.2<=1000000
    ·rw [if_pos c3]
     by_cases c4:rs.all zv=true
     ·rw [if_pos c4,if_pos ⟨decide_eq_true ⟨c1,c2,c3⟩,c4⟩]
     ·rw [if_neg c4,if_neg (fun h=>c4 h.2)]
    ·rw [if_neg c3,if_neg (fun h=>c3 (of_decide_eq_true h.1).2.2)]
   ·rw [if_neg c2,if_neg (fun h=>c2 (of_decide_eq_true h.1).2.1)]
  ·rw [if_neg c1,if_neg (fun h=>c1 (of_decide_eq_true h.1).1)]
theorem atV {l:List (Int × Int)}(hl:l.length<=100){k1:Int->Option α}{Y:Option α}{k2:Int->Bool->Option α}(h2:∀ x b,k2 x b=Y) :
  ∀ (rest:List (Int × Int)) (i n:Nat),l.drop i=rest->i<=l.length->rest.length < n->qX α (l.map rT2) k1 k2 n (i:Int)=if grL rest=0 then Y else k1 (grL rest):=by
 intro rest
 induction rest with
 | nil=>
  intro i n hd hi hn;obtain⟨n,rfl⟩:∃ n',n=n'+1:=⟨n - 1,by simp only [List.length_nil] at hn;omega⟩
  have hl:l.length<=i:=List.drop_eq_nil_iff.1 hd;rw [qX];simp only [tG,List.length_map];rw [decide_eq_false (by omega),al,h2];rfl
 | cons x rs ih=>
  intro i n hd hi hn;obtain⟨n,rfl⟩:∃ n',n=n'+1:=⟨n - 1,by omega⟩
  obtain⟨hg,hd'⟩:=bT hd;have hl':i < l.length:=(List.getElem?_eq_some_iff.1 hg).1;have hw:w64 ((i:Int)+1)=((i+1:Nat):Int):=by rw [aj (by omega) (by omega)];omega
  have hn':rs.length < n:=by simp only [List.length_cons] at hn;omega
  rw [qX];simp only [tG,List.length_map];rw [decide_eq_true (by omega),ap,Ss hg,axU,bo,hw,ih (i+1) n hd' (by omega) hn',grL];by_cases c:f4 x.1 x.2 0 1000000=0
  ·rw [if_pos c,if_pos c]
  ·rw [if_neg c,if_neg c,if_neg c]
theorem aEZ:∀ {gr:List (Int × Int)},grL gr=0->∀ r ∈ gr,r.2<=1000000:=by
 intro gr
 induction gr with
 | nil=>intro _ r hr;cases hr
 | cons x xs ih=>
  intro h r hr;unfold grL at h;by_cases c:f4 x.1 x.2 0 1000000=0
  ·rw [if_pos c] at h
   rcases List.mem_cons.1 hr with rfl | hr
   ·exact (axo c).2.2
   ·exact ih h r hr
  ·rw [if_neg c] at h;exact absurd h c
theorem atP {des:List D3}{gr:List (Int × Int)}{er:Int}(h0:0<=er)(h1:er<=1000)(hl:des.length<=40)(hle:gr.length<=des.length)(hr:∀ r ∈ gr,r.2<=1000000){k1:Option α}{Y:List L5->Option α}{k2:Int->Bool->ae->Option α}(h2:∀ x b A,k2 x b (A.map rL)=Y A) :
  ∀ (rest:List D3) (g:List (Int × Int)) (i n:Nat) (A:List L5),des.drop i=rest->gr.drop i=g->i<=des.length->rest.length < n->A.length=i->rest.all zv=true ->
  kj α (des.map rT3) (gr.map rT2) er k1 k2 n (i:Int) (A.map rL)=if (rest.drop g.length).all (EA er)=true then Y (A++(zb rest g++(rest.drop g.length).map (bxR er))) else k1:=by
 intro rest
 induction rest with
 | nil=>
  intro g i n A hd hg hi hn hA _;obtain⟨n,rfl⟩:∃ n',n=n'+1:=⟨n - 1,by simp only [List.length_nil] at hn;omega⟩
  have hl:des.length<=i:=List.drop_eq_nil_iff.1 hd;rw [kj];simp only [sS,List.length_map];rw [decide_eq_false (by omega),al,h2,List.drop_nil];have:zb ([]:List D3) g=[]:=rfl;rw [this];simp only [List.map_nil,List.append_nil];rfl
 | cons x rs ih=>
  intro g i n A hd hg hi hn hA hb;obtain⟨n,rfl⟩:∃ n',n=n'+1:=⟨n - 1,by omega⟩
  obtain⟨hx,hd'⟩:=bT hd;have hl':i < des.length:=(List.getElem?_eq_some_iff.1 hx).1;have hw:w64 ((i:Int)+1)=((i+1:Nat):Int):=by rw [aj (by omega) (by omega)];omega
  have hn':rs.length < n:=by simp only [List.length_cons] at hn;omega
  simp only [List.all_cons,Bool.and_eq_true] at hb;obtain⟨_,_,g3⟩:=of_decide_eq_true hb.1;obtain⟨b1,b2,b3⟩:=awi h0 h1 hb.1;have m:=mc g3.1 g3.2 h0 h1;have e69:∀ k:Int->Option α,cq α (w64 (x.2.2*er)) 1000 k=k (byE er x):=fun k=>by
   rw [Mb.f69_raw (by decide),yn (by rw [aj (by omega) (by omega)];exact m.1) (by rw [aj (by omega) (by omega)];omega) (by decide) (by decide),b3]
  rw [kj];simp only [sS,List.length_map];rw [decide_eq_true (by omega),ap,E0 hx,e69,uQ,af,L1,List.length_map,aK];cases g with
  | nil=>
   have hgl:gr.length<=i:=List.drop_eq_nil_iff.1 hg;have hg':gr.drop (i+1)=[]:=List.drop_eq_nil_iff.2 (by omega);rw [if_neg (by omega),aj (n:=x.2.2+byE er x) (by omega) (by omega),aj (n:=x.2.2 - byE er x) (by omega) (by omega),aK];have ih':=ih [] (i+1) n (A++[bxR er x]) hd' hg' (by omega) hn' (by rw [List.length_append,List.length_cons,List.length_nil];omega) hb.2;simp only [List.length_nil,List.drop_zero,List.all_cons,Bool.and_eq_true] at ih' ⊢;by_cases c:1000000 < x.2.2+byE er x
   ·rw [if_pos c,if_neg (fun h=>by have:=of_decide_eq_true h.1;omega)]
   ·rw [if_neg c]
    change gK (cy 5 40 (A.map rL) [rL (bxR er x)]) (kj α _ _ _ k1 k2 n _ (A.map rL++[rL (bxR er x)]))=_;rw [bR (ap5 (by omega)),uW,hw,ih'];have z0:∀ l:List D3,zb l []=[]:=fun l=>by cases l <;> rfl
    rw [z0,z0];by_cases c2:rs.all (EA er)=true
    ·rw [if_pos c2,if_pos ⟨decide_eq_true (by omega),c2⟩,List.append_assoc];rfl
    ·rw [if_neg c2,if_neg (fun h=>c2 h.2)]
  | cons r gs=>
   obtain⟨hy,hg'⟩:=bT hg;have hgl:i < gr.length:=(List.getElem?_eq_some_iff.1 hy).1;have hr2:=hr r (List.mem_of_getElem? hy);rw [if_pos (by omega),Ss hy,aK,if_neg (by omega)];have ih':=ih gs (i+1) n (A++[(x.1,x.1,r.1,r.2,x.2.1)]) hd' hg' (by omega) hn' (by rw [List.length_append,List.length_cons,List.length_nil];omega) hb.2;change gK (cy 5 40 (A.map rL) [rL (x.1,x.1,r.1,r.2,x.2.1)]) (kj α _ _ _ k1 k2 n _ (A.map rL++[rL (x.1,x.1,r.1,r.2,x.2.1)]))=_;rw [bR (ap5 (by omega)),uW,hw,ih',List.length_cons,List.drop_succ_cons];by_cases c2:(rs.drop gs.length).all (EA er)=true
   ·rw [if_pos c2,if_pos c2,List.append_assoc];rfl
   ·rw [if_neg c2,if_neg c2]
theorem af4 {des:List D3}{gr:List (Int × Int)}{er:Int}(hg:gr.length<=100){k:ae->Int->Option α}:HP α (des.map rT3) (gr.map rT2) er k=k ((kK des gr er).2.map rL) (kK des gr er).1:=by
 have hf:=bC;rw [HP,af,adB,List.length_map,List.length_map,aK];unfold kK;by_cases c0:40 < des.length
 ·rw [if_pos (by omega),if_pos c0];rfl
 ·rw [if_neg (by omega),if_neg c0,z7,af,Lq]
  refine (apn (by omega) (fun _ _=>rfl) des 0 aF rfl (Nat.zero_le _) (by omega)).trans ?_;by_cases c1:des.all zv=true
  ·rw [if_pos c1,if_pos c1,aK]
   by_cases c2:des.length < gr.length
   ·rw [if_pos (by omega),if_pos c2];rfl
   ·rw [if_neg (by omega),if_neg c2,A1,af,Lt]
    refine (atV hg (fun _ _=>rfl) gr 0 aF rfl (Nat.zero_le _) (by omega)).trans ?_;by_cases c3:grL gr=0
    ·rw [if_pos c3,if_pos c3,Mb.f8_eq,cM]
     by_cases c4:0<=er/\er<=1000
     ·rw [if_pos c4,if_pos c4,As,af,L2]
      refine (atP c4.1 c4.2 (by omega) (by omega) (aEZ c3) (Y:=fun A=>k (A.map rL) 0) (fun _ _ _=>rfl) des gr 0 aF [] rfl rfl (Nat.zero_le _) (by omega) rfl c1).trans ?_;by_cases c5:(des.drop gr.length).all (EA er)=true
      ·rw [if_pos c5,if_pos c5,List.nil_append]
      ·rw [if_neg c5,if_neg c5];rfl
     ·rw [if_neg c4,if_neg c4];rfl
    ·rw [if_neg c3,if_neg c3];rfl
  ·rw [if_neg c1,if_neg c1];rfl
def aaW (des:List D3)(gr:List (Int × Int))(er:Int)(ds:List Dm)(oi ol:Int):(Int × Int × Int × Int) × Int:=
 if (kK des gr er).1=0 then
  (if j9 ds (kK des gr er).2 oi ol=0 then (mh (kK des gr er).2 oi ol ds 2 0,0) else ((0,0,0,0),j9 ds (kK des gr er).2 oi ol))
 else ((0,0,0,0),(kK des gr er).1)
def KR (k:Int->Int->Int->Int->Int->Option α)(u:(Int × Int × Int × Int) × Int):Option α:=k u.1.1 u.1.2.1 u.1.2.2.1 u.1.2.2.2 u.2
theorem azJ {des:List D3}{gr:List (Int × Int)}{er:Int}{ds:List Dm}{oi ol:Int}(hg:gr.length<=100){k:Int->Int->Int->Int->Int->Option α} :
  Oq α (des.map rT3) (gr.map rT2) er (ds.map rD) oi ol k=KR k (aaW des gr er ds oi ol):=by
 rw [Oq,af,aeY,af4 hg,bo];unfold aaW;by_cases c:(kK des gr er).1=0
 ·rw [if_pos c,if_pos c]
  refine (axm (k:=fun e=>cK (e != 0) (k 0 0 0 0 e) (Fg α (ds.map rD) ((kK des gr er).2.map rL) oi ol fun x11 x12 x13 x14 x15=>k x11 x13 x14 x15 0))).trans ?_;rw [bo];by_cases c2:j9 ds (kK des gr er).2 oi ol=0
  ·rw [if_pos c2,if_pos c2]
   obtain⟨tr,e⟩:=azq (α:=α) c2 (k:=fun x11 x12 x13 x14 x15=>k x11 x13 x14 x15 0);rw [e];rfl
  ·rw [if_neg c2,if_neg c2];rfl
 ·rw [if_neg c,if_neg c];rfl
theorem axI {des:List D3}{gr:List (Int × Int)}{er:Int}{ds:List Dm}{oi ol:Int}(hg:gr.length<=100){k:Int->Int->Int->Int->Int->Option α} :
  MM α (des.map rT3) (gr.map rT2) er (ds.map rD) oi ol k=KR k (aaW des gr er ds oi ol):=by
 rw [MM,af,ah7,ajg hg,bo];unfold aaW;by_cases c:(kK des gr er).1=0
 ·rw [if_pos c,if_pos c]
  obtain⟨tr,e⟩:=ayx (α:=α) (ds:=ds) (ls:=(kK des gr er).2) (oi:=oi) (ol:=ol) (k:=fun x9 x10 x11 x12 x13 x14=>k x9 x11 x12 x13 x14);rw [e];by_cases c2:j9 ds (kK des gr er).2 oi ol=0
  ·rw [if_pos c2,if_pos c2];rfl
  ·rw [if_neg c2,if_neg c2];rfl
 ·rw [if_neg c,if_neg c];rfl
end Go.AM.K

namespace Go.AM.K
set_option linter.unusedVariables false
set_option linter.unusedSimpArgs false
variable {α:Type}
def BE (des:List D3)(gr:List (Int × Int))(er:Int)(ds:List Dm)(oi ol:Int):Bool:=(aaW des gr er ds oi ol).2 == 0 && (aaW des gr er ds oi ol).1.1 == 2
theorem avu {a b:Int}{k:Bool->Option α}:cK (a == 0) (k (b == 2)) (k false)=k (a == 0 && b == 2):=by
 cases h:(a == 0)
 ·rfl
 ·rfl
theorem ajc {des:List D3}{gr:List (Int × Int)}{er:Int}{ds:List Dm}{oi ol:Int}(hg:gr.length<=100){k:Bool->Option α}:NY α (des.map rT3) (gr.map rT2) er (ds.map rD) oi ol k=k (BE des gr er ds oi ol):=by
 rw [NY,af,aeF,axI hg];exact avu
theorem amh {des:List D3}{gr:List (Int × Int)}{er:Int}{ds:List Dm}{oi ol:Int}(hg:gr.length<=100){k:Bool->Option α}:N2 α (des.map rT3) (gr.map rT2) er (ds.map rD) oi ol k=k (BE des gr er ds oi ol):=by
 rw [N2,af,ajO,azJ hg];exact avu
def ET (f:Int->Bool):Nat->Option Nat
 | 0=>if f 0=true then some 0 else none
 | n+1=>if f ((n+1:Nat):Int)=true then some (n+1) else ET f n
section
variable {des:List D3}{gr:List (Int × Int)}{ds:List Dm}{oi ol:Int}(hg:gr.length<=100)
include hg
theorem aBx {k1:Int->Option α}{k2:Bool->Int->Option α}{Y:Option α}(h2:∀ b x,k2 b x=Y):∀ (m n:Nat),m+1 < n->m<=1000 ->
  rE α (des.map rT3) (gr.map rT2) (ds.map rD) oi ol k1 k2 n (m:Int)=match ET (fun er=>BE des gr er ds oi ol) m with | some t=>k1 (t:Int) | none=>Y:=by
 intro m
 induction m with
 | zero=>
  intro n hn _;obtain⟨n,rfl⟩:∃ n',n=n'+2:=⟨n - 2,by omega⟩
  rw [rE];simp only [xQ];rw [decide_eq_true (by omega),ap,ajc hg];unfold ET;cases h:BE des gr ((0:Nat):Int) ds oi ol
  ·rw [al,if_neg (by decide),rE]
   simp only [xQ];rw [show w64 (((0:Nat):Int) - 1)=-1 by decide,decide_eq_false (by omega),al,h2]
  ·rw [ap,if_pos rfl]
 | succ m ih=>
  intro n hn hm;obtain⟨n,rfl⟩:∃ n',n=n'+1:=⟨n - 1,by omega⟩
  rw [rE];simp only [xQ];rw [decide_eq_true (by omega),ap,ajc hg];unfold ET;cases h:BE des gr ((m+1:Nat):Int) ds oi ol
  ·rw [al,if_neg (by decide),show w64 (((m+1:Nat):Int) - 1)=(m:Int) by rw [aj (by omega) (by omega)];omega]
   exact ih n (by omega) (by omega)
  ·rw [ap,if_pos rfl]
theorem awy {k1:Int->Option α}{k2:Int->Bool->Int->Option α}{Y:Option α}(h2:∀ x b y,k2 x b y=Y):∀ (m n:Nat) (z:Int),m+1 < n->m<=1000 ->
  mO α (des.map rT3) (gr.map rT2) (ds.map rD) oi ol k1 k2 n (m:Int) z=match ET (fun er=>BE des gr er ds oi ol) m with | some t=>k1 (t:Int) | none=>Y:=by
 intro m
 induction m with
 | zero=>
  intro n z hn _;obtain⟨n,rfl⟩:∃ n',n=n'+2:=⟨n - 2,by omega⟩
  rw [mO];simp only [pX];rw [decide_eq_true (by omega),ap,amh hg];unfold ET;cases h:BE des gr ((0:Nat):Int) ds oi ol
  ·rw [al,if_neg (by decide),mO]
   simp only [pX];rw [show w64 (((0:Nat):Int) - 1)=-1 by decide,decide_eq_false (by omega),al,h2]
  ·rw [ap,if_pos rfl]
 | succ m ih=>
  intro n z hn hm;obtain⟨n,rfl⟩:∃ n',n=n'+1:=⟨n - 1,by omega⟩
  rw [mO];simp only [pX];rw [decide_eq_true (by omega),ap,amh hg];unfold ET;cases h:BE des gr ((m+1:Nat):Int) ds oi ol
  ·rw [al,if_neg (by decide),show w64 (((m+1:Nat):Int) - 1)=(m:Int) by rw [aj (by omega) (by omega)];omega]
   exact ih n _ (by omega) (by omega)
  ·rw [ap,if_pos rfl]
def Z2 (des:List D3)(gr:List (Int × Int))(ds:List Dm)(oi ol most:Int):Int × Int:=
 if (kK des gr 0).1=0 then
  (if 0<=most/\most<=50 then (match ET (fun er=>BE des gr er ds oi ol) most.toNat with | some t=>((t:Int),0) | none=>(0,17)) else (0,2))
 else (0,(kK des gr 0).1)
theorem aDm {most:Int}{k:Int->Int->Option α}:abm α (des.map rT3) (gr.map rT2) (ds.map rD) oi ol most k=k (Z2 des gr ds oi ol most).1 (Z2 des gr ds oi ol most).2:=by
 have hf:=bC;rw [abm,af,avn,ajg hg,bo];unfold Z2;by_cases c:(kK des gr 0).1=0
 ·rw [if_pos c,if_pos c,sa,cM]
  by_cases c2:0<=most/\most<=50
  ·rw [if_pos c2,if_pos c2,JA,af,Ud]
   have hm:most=((most.toNat:Nat):Int):=by omega
   rw [hm,Int.toNat_natCast];refine (aBx hg (fun _ _=>rfl) most.toNat aF (by omega) (by omega)).trans ?_;cases ET (fun er=>BE des gr er ds oi ol) most.toNat <;> rfl
  ·rw [if_neg c2,if_neg c2]
 ·rw [if_neg c,if_neg c]
theorem awu {most:Int}{k:Int->Int->Option α}:E2 α (des.map rT3) (gr.map rT2) (ds.map rD) oi ol most k=k (Z2 des gr ds oi ol most).1 (Z2 des gr ds oi ol most).2:=by
 have hf:=bC;rw [E2,af,akI,af4 hg,bo];unfold Z2;by_cases c:(kK des gr 0).1=0
 ·rw [if_pos c,if_pos c,Mb.f8_eq,cM]
  by_cases c2:0<=most/\most<=50
  ·rw [if_pos c2,if_pos c2,z4,af,MY]
   have hm:most=((most.toNat:Nat):Int):=by omega
   rw [hm,Int.toNat_natCast];refine (awy hg (fun _ _ _=>rfl) most.toNat aF 0 (by omega) (by omega)).trans ?_;cases ET (fun er=>BE des gr er ds oi ol) most.toNat <;> rfl
  ·rw [if_neg c2,if_neg c2]
 ·rw [if_neg c,if_neg c]
end
theorem aB0 {k:Option α}:aqs α k=k:=rfl
theorem aJf (des:List D3)(gr:List (Int × Int))(ds:List Dm)(oi ol most:Int){k:Bool->Option α} :
  alX α (des.map rT3) (gr.map rT2) (ds.map rD) oi ol most k=k true:=by
 rw [alX,af,avQ,aB0];obtain⟨b,hb,e⟩:=aos (α:=α) (des:=des) (gr:=gr) (ds:=ds) (k:=fun x8=>cK (!x8)
    (k true)
    (cL α most 5 50
     (fun (x9:Bool)=>cK x9
      (k true)
      (FJ α (des.map rT3) (gr.map rT2) (ds.map rD)
       (fun (x10:ae) (x11:ae) (x12:ae)=>abm α x10 x11 x12 oi ol most
        (fun (x13:Int) (x14:Int)=>E2 α (des.map rT3) (gr.map rT2) (ds.map rD) oi ol most
         (fun (x15:Int) (x16:Int)=>cK (x14 == x16)
          (k (x13 == x15))
          (k false))))))))
 refine e.trans ?_;clear e;cases b with
 | false=>rw [Bool.not_false,ap]
 | true=>
  obtain⟨h1,h2,h3⟩:=hb rfl;have hg:gr.length<=100:=by omega
  rw [Bool.not_true,al,Mb.f8_eq,aK];by_cases c:5<=most/\most<=50
  ·rw [if_pos c]
  ·rw [if_neg c,ayT (by omega) (by omega) (by omega),aDm hg,awu hg,beq_self_eq_true,ap,beq_self_eq_true]
end Go.AM.K
