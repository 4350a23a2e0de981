/- Texts of one kind, put together. -/
import Derived.Test.YtffcelhcekillaaGreatYf
import Derived.Test.YtffcelhcekillaaGreatYd
import Derived.Test.YtffcelhcekillaaGreatRl
namespace Go.AM.K
set_option linter.unusedVariables false
set_option linter.unusedSimpArgs false
variable {α:Type}
theorem ib {a b:Int}(h1:bdI a)(h2:bdI b){k:Int->Option α}:dG α a b k=k (cZ a b):=by
 unfold bdI at h1 h2;rw [dG,af,Zq,aj (by omega) (by omega),Mb.f91_eq (by decide) (by decide) (by omega) (by omega)];rfl
theorem IU {a b:Int}(h1:bdI a)(h2:bdI b){k:Bool->Option α}:pK α a b k=k (decide (hvP a b)):=by
 unfold bdI at h1 h2;rw [pK,af,Tm,aj (by omega) (by omega)];rfl
theorem Km {k:Option α}:jQ α k=k:=by rw [jQ,af,Qh]
theorem Ku {x:Pc}(h:x.bd){k:Bool->Bool->Option α}:jC α x.w1 x.w2 x.s1 x.s2 k=k (decide (chE x=1)) (decide (chE x ≠ 0)):=by
 obtain⟨h1,h2,h3,h4⟩:=h;rw [jC,af,V1,vk,af,E5,IU h1 h2,IU h3 h4];unfold bdI at h1 h2 h3 h4;rw [aj (n:=x.s2 - x.s1) (by omega) (by omega),aj (n:=x.w2 - x.w1) (by omega) (by omega)];have fin:∀ c:Prop,[Decidable c]->(if hvP x.s1 x.s2 then (2:Int) else 0)=chE x->pK α x.s1 x.s2 (fun x14=>k false x14)=k (decide (chE x=1)) (decide (chE x ≠ 0)):=by
  intro c _ e;rw [IU (show bdI x.s1 by unfold bdI;omega) (show bdI x.s2 by unfold bdI;omega),<- e];by_cases c:hvP x.s1 x.s2
  ·rw [if_pos c,decide_eq_true c];rfl
  ·rw [if_neg c,decide_eq_false c];rfl
 by_cases c1:hvP x.w1 x.w2
 ·rw [decide_eq_true c1,aq,aJ]
  by_cases c3:x.s2 - x.s1<=x.w2 - x.w1
  ·have e:chE x=1:=by unfold chE;rw [if_pos ⟨c1,Or.inr c3⟩]
   rw [if_pos c3,e];rfl
  ·rw [if_neg c3,cL]
   by_cases c2:hvP x.s1 x.s2
   ·rw [if_pos c2]
    exact fin True (by unfold chE;exact (if_neg (fun h=>h.2.elim (fun g=>g c2) c3)).symm)
   ·have e:chE x=1:=by unfold chE;rw [if_pos ⟨c1,Or.inl c2⟩]
    rw [if_neg c2,e];rfl
 ·rw [decide_eq_false c1,al]
  exact fin True (by unfold chE;exact (if_neg (fun h=>c1 h.1)).symm)
theorem YK {x:Pc}(h:x.bd){c:Int}{k:Int->Int->Int->Int->Option α}:eg α x.w1 x.w2 x.s1 x.s2 (decide (c=1)) k=k (x.cut c).1.w2 (x.cut c).1.s2 (x.cut c).2.w1 (x.cut c).2.s1:=by
 obtain⟨h1,h2,h3,h4⟩:=h;rw [eg,af,RM,wW,af,Hz,aJ,ib h1 h2,ib h1 h2,ib h3 h4,ib h3 h4];unfold Pc.cut;by_cases hc:c=1
 ·rw [if_pos hc,if_pos hc]
 ·rw [if_neg hc,if_neg hc]
def Pc.rt (x:Pc):Prop:=(1000<=x.w1/\x.w1<=x.w2/\x.w2<=200000)/\0<=x.s1/\x.s1<=x.s2/\x.s2<=9999
theorem ac6 {x:Pc}(h:x.rt):x.bd:=by
 unfold Pc.rt at h;unfold Pc.bd bdI;omega
theorem af0 {x:Pc}(h:x.rt)(c:Int):(x.cut c).1.rt/\(x.cut c).2.rt:=by
 unfold Pc.rt at h;have m1:x.w1<=cZ x.w1 x.w2/\cZ x.w1 x.w2<=x.w2:=by unfold cZ;omega
 have m2:x.s1<=cZ x.s1 x.s2/\cZ x.s1 x.s2<=x.s2:=by unfold cZ;omega
 unfold Pc.cut;by_cases hc:c=1
 ·rw [if_pos hc]
  unfold Pc.rt;simp only;omega
 ·rw [if_neg hc]
  unfold Pc.rt;simp only;omega
theorem ayz {x:Pc}(h:x.rt):x.mid.rt:=by
 unfold Pc.rt at h;have m1:x.w1<=cZ x.w1 x.w2/\cZ x.w1 x.w2<=x.w2:=by unfold cZ;omega
 have m2:x.s1<=cZ x.s1 x.s2/\cZ x.s1 x.s2<=x.s2:=by unfold cZ;omega
 show (1000<=cZ x.w1 x.w2/\cZ x.w1 x.w2<=cZ x.w1 x.w2/\cZ x.w1 x.w2<=200000)/\0<=cZ x.s1 x.s2/\cZ x.s1 x.s2<=cZ x.s1 x.s2/\cZ x.s1 x.s2<=9999;omega
theorem agX {lo hi a b:Int}(h1:a<=lo)(h2:lo<=hi)(h3:hi<=b):f9 lo hi a b=0:=by
 unfold f9;rw [if_pos (by omega),if_neg (by omega)]
theorem av7 {d:Dm}{ls:List L5}{oi ol:Int}(h:ckA (jL d ls oi ol)=0){x:Pc}(hx:x.rt):ckA (jL (x.dm d) ls oi ol)=0:=by
 obtain⟨h1,h2,h3,h4,h5,h6,h7,h8⟩:=j0 h;obtain⟨⟨a1,a2,a3⟩,a4,a5,a6⟩:=hx;have e1:f9 x.s1 x.s2 0 9999=0:=agX a4 a5 a6;have e2:f9 x.w1 x.w2 1000 200000=0:=agX a1 a2 a3;show ckA (⟨d.ix,x.s1,x.s2,d.pol,x.w1,x.w2,ls,oi,ol⟩:Ask)=0;have h1':5000<=d.ix/\d.ix<=80000:=h1;have h3':0<=d.pol/\d.pol<=1:=h3;have h5':ls.length<=40:=h5;have h6':lsE ls=0:=h6;have h7':5000<=oi/\oi<=80000:=h7;have h8':0<=ol/\ol<=80000:=h8;unfold ckA;dsimp only;rw [if_pos h1',if_pos e1,if_pos h3',if_pos e2,if_neg (by omega),if_pos h6',if_pos h7',if_pos h8']
abbrev DVK (α:Type):=ae->Bool->Int->Int->Int->Bool->Option α
abbrev aqn:Type 1:=(α:Type)->ae->Bool->Int->Int->Int->Bool->ae->ae->Int->Int->Int->Int->Int->Int->Int->Int->DVK α->Option α
abbrev DJ0:Type 1:=(α:Type)->Int->Bool->(Bool->Option α)->Option α
abbrev DJ1:Type 1:=(α:Type)->Bool->Option α->Option α->Option α
noncomputable def Fi (J0:DJ0)(J1:DJ1)(g:aqn):aqn:=fun α x1 x2 x3 x4 x5 x6 x7 x8 x9 x10 x11 x12 x13 x14 x15 x16 k1=>
 cK x2
  (k1 x1 x2 x3 x4 x5 x6)
  (dE x7 x11 [.int .i64,.int .i64,.int .i64,.int .i64,.int .i64,.int .i64,.int .i64,.int .i64,.int .i64]
   (fun (x17:Int) (x18:Int) (x19:Int) (x20:Int) (x21:Int) (x22:Int) (x23:Int) (x24:Int) (x25:Int)=>ee α x8 x9 x10 x17 x18 x19 x24 x25 x12 x13 x14 x15
    (fun (x26:Int)=>cK (x26 == 2)
     (gK (cj 1 8 x1 [[DC.v (.int .i64 0)]]) (k1 (x1++[[DC.v (.int .i64 0)]]) x2 x3 x4 x5 x6))
     (dG α x12 x13
      (fun (x27:Int)=>dG α x14 x15
       (fun (x28:Int)=>jQ α
        (ee α x8 x9 x10 x17 x18 x19 x24 x25 x27 x27 x28 x28
         (fun (x29:Int)=>cK (x29 == 0)
          (k1 x1 true x11 x27 x28 x6)
          (jC α x12 x13 x14 x15
           (fun (x30:Bool) (x31:Bool)=>J0 α x16 x31
            (fun (x51:Bool)=>cK x51
             (k1 x1 x2 x3 x4 x5 true)
             (J1 α x30
              (gK (cj 1 8 x1 [[DC.v (.int .i64 1)]]) (eg α x12 x13 x14 x15 x30
               (fun (x73:Int) (x74:Int) (x75:Int) (x76:Int)=>g α (x1++[[DC.v (.int .i64 1)]]) x2 x3 x4 x5 x6 x7 x8 x9 x10 x11 x12 x73 x14 x74 (w64 (x16+1))
                (fun (x77:ae) (x78:Bool) (x79:Int) (x80:Int) (x81:Int) (x82:Bool)=>g α x77 x78 x79 x80 x81 x82 x7 x8 x9 x10 x11 x75 x13 x76 x15 (w64 (x16+1))
                 (fun (x83:ae) (x84:Bool) (x85:Int) (x86:Int) (x87:Int) (x88:Bool)=>k1 x83 x84 x85 x86 x87 x88)))))
              (gK (cj 1 8 x1 [[DC.v (.int .i64 2)]]) (eg α x12 x13 x14 x15 x30
               (fun (x89:Int) (x90:Int) (x91:Int) (x92:Int)=>g α (x1++[[DC.v (.int .i64 2)]]) x2 x3 x4 x5 x6 x7 x8 x9 x10 x11 x12 x89 x14 x90 (w64 (x16+1))
                (fun (x93:ae) (x94:Bool) (x95:Int) (x96:Int) (x97:Int) (x98:Bool)=>g α x93 x94 x95 x96 x97 x98 x7 x8 x9 x10 x11 x91 x13 x92 x15 (w64 (x16+1))
                 (fun (x99:ae) (x100:Bool) (x101:Int) (x102:Int) (x103:Int) (x104:Bool)=>k1 x99 x100 x101 x102 x103 x104)))))))))))))))))
def rF (f:aqn)(n:Nat):Prop:=∀ (α:Type) (ds:List Dm) (d:Dm) (i:Nat) (ls:List L5) (oi ol:Int) (tr:ae) (a b c:Int) (op:Bool) (x:Pc) (k:DVK α),
 ds[i]?=some d->(0<=d.sh/\d.sh<=2)->ckA (jL d ls oi ol)=0->x.rt->tr.length+2 ^ (n+1)<=1000 ->
 f α tr true a b c op (ds.map rD) (ls.map rL) oi ol (i:Int) x.w1 x.w2 x.s1 x.s2 (5 - (n:Int)) k=k tr true a b c op /\
 ∃ (tr':ae) (o:Bool),tr'.length < tr.length+2 ^ (n+1)/\f α tr false a b c op (ds.map rD) (ls.map rL) oi ol (i:Int) x.w1 x.w2 x.s1 x.s2 (5 - (n:Int)) k=
  match (vis d ls oi ol n x).1 with
  | none=>k tr' false a b c (op || (vis d ls oi ol n x).2)
  | some m=>k tr' true (i:Int) m.1 m.2 o
def agx (J:DJ0):Prop:=∀ (α:Type) (c:Int) (b:Bool) (k:Bool->Option α),J α c b k=if 5<=c then k true else k (!b)
def az2 (J:DJ1):Prop:=∀ (α:Type) (b:Bool) (k1 k2:Option α),J α b k1 k2=if b=true then k1 else k2
theorem Ig {d:Dm}(hs:0<=d.sh/\d.sh<=2){x:Pc}{ls:List L5}{oi ol:Int}(h:ckA (jL d ls oi ol)=0)(hx:x.rt){k:Int->Option α}:ee α (ls.map rL) oi ol d.sh d.pol d.ix d.lo d.hi x.w1 x.w2 x.s1 x.s2 k=k (eK (x.dm d) ls oi ol):=Sp (d:=x.dm d) hs (av7 h hx)
theorem EG {d:Dm}(hs:0<=d.sh/\d.sh<=2){x:Pc}{ls:List L5}{oi ol:Int}(h:ckA (jL d ls oi ol)=0)(hx:x.rt){k:Int->Option α}:ee α (ls.map rL) oi ol d.sh d.pol d.ix d.lo d.hi (cZ x.w1 x.w2) (cZ x.w1 x.w2) (cZ x.s1 x.s2) (cZ x.s1 x.s2) k=k (eK (x.mid.dm d) ls oi ol):=Sp (d:=x.mid.dm d) hs (av7 h (ayz hx))
theorem qL {J0:DJ0}{J1:DJ1}{g:aqn}{n:Nat}(hn:n < 5)(h0:agx J0)(h1:az2 J1)(hg:rF g n):rF (sld (Fi J0 J1 g)) (n+1):=by
 intro α ds d i ls oi ol tr a b c op x k hd hs hc hx ht;rw [af];unfold Fi;refine⟨by rw [aq],?_⟩;have hp1:1<=2 ^ (n+1):=Nat.one_le_two_pow;have hp2:2 ^ (n+1+1)=2*2 ^ (n+1):=by rw [Nat.pow_succ];omega
 have hb:=ac6 hx;obtain⟨b1,b2,b3,b4⟩:=hb;rw [al,oO hd,Ig hs hc hx,ib b1 b2,ib b3 b4,Km,EG hs hc hx,Ku ⟨b1,b2,b3,b4⟩,h0,if_neg (by omega)];rw [vis];by_cases c1:eK (x.dm d) ls oi ol=2
 ·rw [beq_iff_eq.2 c1,aq,bO (ap8 (by omega) 0),if_pos c1]
  exact⟨tr++[[DC.v (.int .i64 0)]],false,by simp only [List.length_append,List.length_cons,List.length_nil];omega,by rw [Bool.or_false]⟩
 ·rw [beq_eq_false_iff_ne.2 c1,al,if_neg c1]
  by_cases c2:eK (x.mid.dm d) ls oi ol=0
  ·rw [beq_iff_eq.2 c2,aq,if_pos c2]
   exact⟨tr,op,by omega,rfl⟩
  ·rw [beq_eq_false_iff_ne.2 c2,al,if_neg c2,cL]
   by_cases c3:chE x=0
   ·rw [if_neg (fun h=>h c3),if_pos c3]
    exact⟨tr,false,by omega,by rw [Bool.or_true]⟩
   ·rw [if_pos c3,if_neg c3,h1]
    have hw:w64 (5 - ((n+1:Nat):Int)+1)=5 - (n:Int):=by rw [aj (by omega) (by omega)];omega
    obtain⟨q1,q2,q3,q4⟩:=z9 x (chE x);obtain⟨p1,p2⟩:=af0 hx (chE x);have e105:∀ k:Int->Int->Int->Int->Option α,eg α x.w1 x.w2 x.s1 x.s2 (decide (chE x=1)) k=k (x.cut (chE x)).1.w2 (x.cut (chE x)).1.s2 (x.cut (chE x)).2.w1 (x.cut (chE x)).2.s1:=fun k=>YK ⟨b1,b2,b3,b4⟩;simp only [e105,hw];have key:∀ v:Int,∃ (tr':ae) (o:Bool),tr'.length < tr.length+2 ^ (n+1+1) /\
      gK (cj 1 8 tr [[DC.v (.int .i64 v)]]) (g α (tr++[[DC.v (.int .i64 v)]]) false a b c op (ds.map rD) (ls.map rL) oi ol (i:Int) x.w1 (x.cut (chE x)).1.w2 x.s1 (x.cut (chE x)).1.s2 (5 - (n:Int))
       fun x77 x78 x79 x80 x81 x82=>g α x77 x78 x79 x80 x81 x82 (ds.map rD) (ls.map rL) oi ol (i:Int) (x.cut (chE x)).2.w1 x.w2 (x.cut (chE x)).2.s1 x.s2 (5 - (n:Int)) fun x83 x84 x85 x86 x87 x88=>k x83 x84 x85 x86 x87 x88)=
      match (if (vis d ls oi ol n (x.cut (chE x)).1).1=none then ((vis d ls oi ol n (x.cut (chE x)).2).1,(vis d ls oi ol n (x.cut (chE x)).1).2 || (vis d ls oi ol n (x.cut (chE x)).2).2) else vis d ls oi ol n (x.cut (chE x)).1).1 with
      | none=>k tr' false a b c (op || (if (vis d ls oi ol n (x.cut (chE x)).1).1=none then ((vis d ls oi ol n (x.cut (chE x)).2).1,(vis d ls oi ol n (x.cut (chE x)).1).2 || (vis d ls oi ol n (x.cut (chE x)).2).2) else vis d ls oi ol n (x.cut (chE x)).1).2)
      | some m=>k tr' true (i:Int) m.1 m.2 o:=by
     intro v;rw [bO (ap8 (by omega) v)];generalize x.cut (chE x)=y at *;rw [<- q1,<- q2,<- q3,<- q4];obtain⟨_,t1,o1,l1,r1⟩:=hg α ds d i ls oi ol (tr++[[DC.v (.int .i64 v)]]) a b c op y.1
      (fun x77 x78 x79 x80 x81 x82=>g α x77 x78 x79 x80 x81 x82 (ds.map rD) (ls.map rL) oi ol (i:Int) y.2.w1 y.2.w2 y.2.s1 y.2.s2 (5 - (n:Int)) fun x83 x84 x85 x86 x87 x88=>k x83 x84 x85 x86 x87 x88) hd hs hc p1
      (by simp only [List.length_append,List.length_cons,List.length_nil];omega)
     simp only [List.length_append,List.length_cons,List.length_nil] at l1;rw [r1];cases hv1:(vis d ls oi ol n y.1).1 with
     | some m=>
      rw [if_neg (fun h=>by cases h),hv1];obtain⟨s1,_⟩:=hg α ds d i ls oi ol t1 (i:Int) m.1 m.2 o1 y.2 (fun x83 x84 x85 x86 x87 x88=>k x83 x84 x85 x86 x87 x88) hd hs hc p2 (by omega);exact⟨t1,o1,by omega,s1⟩
     | none=>
      rw [if_pos rfl];simp only;obtain⟨_,t2,o2,l2,r2⟩:=hg α ds d i ls oi ol t1 a b c (op || (vis d ls oi ol n y.1).2) y.2 (fun x83 x84 x85 x86 x87 x88=>k x83 x84 x85 x86 x87 x88) hd hs hc p2 (by omega);rw [r2];cases hv2:(vis d ls oi ol n y.2).1 with
      | some m=>exact⟨t2,o2,by omega,rfl⟩
      | none=>exact⟨t2,o2,by omega,by rw [Bool.or_assoc]⟩
    by_cases cw:decide (chE x=1)=true
    ·simp only [if_pos cw]
     exact key 1
    ·simp only [if_neg cw]
     exact key 2
theorem xA {c:Int}{b:Bool}{k:Bool->Option α}:cK (decide (5<=c)) (k true) (k (!b))=if 5<=c then k true else k (!b):=aJ
theorem aAM:agx vu:=fun α c b k=>by rw [vu,af,Mi,xA]
theorem aHw:agx wu:=fun α c b k=>by rw [wu,af,Om,xA]
theorem axq:rF wQ 0:=by
 intro α ds d i ls oi ol tr a b c op x k hd hs hc hx ht;rw [wQ,af];refine⟨by rw [OR,aq],?_⟩;have hb:=ac6 hx;obtain⟨b1,b2,b3,b4⟩:=hb;rw [OR,al,oO hd,Ig hs hc hx,ib b1 b2,ib b3 b4,Km,EG hs hc hx,Ku ⟨b1,b2,b3,b4⟩,aAM,if_pos (by decide)];rw [vis];by_cases c1:eK (x.dm d) ls oi ol=2
 ·rw [beq_iff_eq.2 c1,aq,bO (ap8 (by omega) 0),if_pos c1]
  exact⟨tr++[[DC.v (.int .i64 0)]],false,by simp only [List.length_append,List.length_cons,List.length_nil];omega,by rw [Bool.or_false]⟩
 ·rw [beq_eq_false_iff_ne.2 c1,al,if_neg c1]
  by_cases c2:eK (x.mid.dm d) ls oi ol=0
  ·rw [beq_iff_eq.2 c2,aq,if_pos c2]
   exact⟨tr,op,by omega,rfl⟩
  ·rw [beq_eq_false_iff_ne.2 c2,al,if_neg c2,aq]
   exact⟨tr,false,by omega,by rw [Bool.or_true]⟩
theorem azE:rF sN 1:=by
 have h:sN=sld (Fi uW tW wQ):=rfl;rw [h];exact qL (by decide) (fun α c b k=>by rw [uW,af,Np,xA]) (fun α b k1 k2=>by rw [tW,af,Lt,rq]) axq
theorem axd:rF vq 2:=by
 have h:vq=sld (Fi vn vZ sN):=rfl;rw [h];exact qL (by decide) (fun α c b k=>by rw [vn,af,Ov,xA]) (fun α b k1 k2=>by rw [vZ,af,MU,rq]) azE
theorem awm:rF uL 3:=by
 have h:uL=sld (Fi tA uJ vq):=rfl;rw [h];exact qL (by decide) (fun α c b k=>by rw [tA,af,MX,xA]) (fun α b k1 k2=>by rw [uJ,af,ND,rq]) axd
theorem Ps:rF pT 4:=by
 have h:pT=sld (Fi xa uR uL):=rfl;rw [h];exact qL (by decide) (fun α c b k=>by rw [xa,af,Nv,xA]) (fun α b k1 k2=>by rw [uR,af,Mw,rq]) awm
theorem ayf {ds:List Dm}{d:Dm}{i:Nat}(hd:ds[i]?=some d)(hs:0<=d.sh/\d.sh<=2){ls:List L5}{oi ol:Int}(hc:ckA (jL d ls oi ol)=0)(hx:d.pc.rt)
  {k1:Bool->Int->Int->Int->Bool->Option α} {k2:DVK α} :
  ∃ (tr:ae) (o z:Bool),KH α false 0 0 0 false (ds.map rD) (ls.map rL) oi ol (i:Int) d.w1 d.w2 d.s1 d.s2 0 k1 k2=
   match (vis d ls oi ol 5 d.pc).1 with
   | none=>if o=true then k1 false 0 0 0 (vis d ls oi ol 5 d.pc).2 else k2 tr false 0 0 0 (vis d ls oi ol 5 d.pc).2
   | some m=>if o=true then k1 true (i:Int) m.1 m.2 z else k2 tr true (i:Int) m.1 m.2 z:=by
 rw [KH,af,ah3];have hw:d.w1=d.pc.w1/\d.w2=d.pc.w2/\d.s1=d.pc.s1/\d.s2=d.pc.s2:=⟨rfl,rfl,rfl,rfl⟩
 obtain⟨w1,w2,w3,w4⟩:=hw;rw [w1,w2,w3,w4];clear w1 w2 w3 w4;generalize d.pc=x at *;have hb:=ac6 hx;obtain⟨b1,b2,b3,b4⟩:=hb;rw [al,oO hd,Ig hs hc hx,ib b1 b2,ib b3 b4,Km,EG hs hc hx,Ku ⟨b1,b2,b3,b4⟩,aHw,if_neg (by decide)];rw [vis];by_cases c1:eK (x.dm d) ls oi ol=2
 ·rw [beq_iff_eq.2 c1,aq,if_pos c1]
  exact⟨[[DC.v (.int .i64 0)]],false,false,rfl⟩
 ·rw [beq_eq_false_iff_ne.2 c1,al,if_neg c1]
  by_cases c2:eK (x.mid.dm d) ls oi ol=0
  ·rw [beq_iff_eq.2 c2,aq,if_pos c2]
   exact⟨[],true,false,rfl⟩
  ·rw [beq_eq_false_iff_ne.2 c2,al,if_neg c2,cL]
   by_cases c3:chE x=0
   ·rw [if_neg (fun h=>h c3),if_pos c3]
    exact⟨[],true,false,rfl⟩
   ·rw [if_pos c3,if_neg c3,AQ,af,Nm,rq]
    have hw:w64 (0+1)=5 - ((4:Nat):Int):=by decide
    obtain⟨q1,q2,q3,q4⟩:=z9 x (chE x);obtain⟨p1,p2⟩:=af0 hx (chE x);have e105:∀ k:Int->Int->Int->Int->Option α,eg α x.w1 x.w2 x.s1 x.s2 (decide (chE x=1)) k=k (x.cut (chE x)).1.w2 (x.cut (chE x)).1.s2 (x.cut (chE x)).2.w1 (x.cut (chE x)).2.s1:=fun k=>YK ⟨b1,b2,b3,b4⟩;simp only [e105,hw];have key:∀ v:Int,∃ (tr:ae) (o z:Bool),
      pT α [[DC.v (.int .i64 v)]] false 0 0 0 false (ds.map rD) (ls.map rL) oi ol (i:Int) x.w1 (x.cut (chE x)).1.w2 x.s1 (x.cut (chE x)).1.s2 (5 - ((4:Nat):Int))
       (fun x77 x78 x79 x80 x81 x82=>pT α x77 x78 x79 x80 x81 x82 (ds.map rD) (ls.map rL) oi ol (i:Int) (x.cut (chE x)).2.w1 x.w2 (x.cut (chE x)).2.s1 x.s2 (5 - ((4:Nat):Int)) fun x83 x84 x85 x86 x87 x88=>k2 x83 x84 x85 x86 x87 x88)=
      match (if (vis d ls oi ol 4 (x.cut (chE x)).1).1=none then ((vis d ls oi ol 4 (x.cut (chE x)).2).1,(vis d ls oi ol 4 (x.cut (chE x)).1).2 || (vis d ls oi ol 4 (x.cut (chE x)).2).2) else vis d ls oi ol 4 (x.cut (chE x)).1).1 with
      | none=>if o=true then k1 false 0 0 0 (if (vis d ls oi ol 4 (x.cut (chE x)).1).1=none then ((vis d ls oi ol 4 (x.cut (chE x)).2).1,(vis d ls oi ol 4 (x.cut (chE x)).1).2 || (vis d ls oi ol 4 (x.cut (chE x)).2).2) else vis d ls oi ol 4 (x.cut (chE x)).1).2
        else k2 tr false 0 0 0 (if (vis d ls oi ol 4 (x.cut (chE x)).1).1=none then ((vis d ls oi ol 4 (x.cut (chE x)).2).1,(vis d ls oi ol 4 (x.cut (chE x)).1).2 || (vis d ls oi ol 4 (x.cut (chE x)).2).2) else vis d ls oi ol 4 (x.cut (chE x)).1).2
      | some m=>if o=true then k1 true (i:Int) m.1 m.2 z else k2 tr true (i:Int) m.1 m.2 z:=by
     intro v;generalize x.cut (chE x)=y at *;rw [<- q1,<- q2,<- q3,<- q4];obtain⟨_,t1,o1,l1,r1⟩:=Ps α ds d i ls oi ol [[DC.v (.int .i64 v)]] 0 0 0 false y.1
      (fun x77 x78 x79 x80 x81 x82=>pT α x77 x78 x79 x80 x81 x82 (ds.map rD) (ls.map rL) oi ol (i:Int) y.2.w1 y.2.w2 y.2.s1 y.2.s2 (5 - ((4:Nat):Int)) fun x83 x84 x85 x86 x87 x88=>k2 x83 x84 x85 x86 x87 x88) hd hs hc p1
      (by simp only [List.length_cons,List.length_nil];decide)
     simp only [List.length_cons,List.length_nil] at l1;rw [r1];cases hv1:(vis d ls oi ol 4 y.1).1 with
     | some m=>
      rw [if_neg (fun h=>by cases h),hv1];obtain⟨s1,_⟩:=Ps α ds d i ls oi ol t1 (i:Int) m.1 m.2 o1 y.2 (fun x83 x84 x85 x86 x87 x88=>k2 x83 x84 x85 x86 x87 x88) hd hs hc p2 (by simp only [Nat.reduceAdd,Nat.reducePow] at l1 ⊢;omega);exact⟨t1,false,o1,s1⟩
     | none=>
      rw [if_pos rfl];simp only;obtain⟨_,t2,o2,l2,r2⟩:=Ps α ds d i ls oi ol t1 0 0 0 (false || (vis d ls oi ol 4 y.1).2) y.2 (fun x83 x84 x85 x86 x87 x88=>k2 x83 x84 x85 x86 x87 x88) hd hs hc p2 (by simp only [Nat.reduceAdd,Nat.reducePow] at l1 ⊢;omega);rw [r2];cases hv2:(vis d ls oi ol 4 y.2).1 with
      | some m=>exact⟨t2,false,o2,rfl⟩
      | none=>exact⟨t2,false,false,by rw [Bool.false_or,if_neg (by decide)]⟩
    by_cases cw:decide (chE x=1)=true
    ·simp only [if_pos cw]
     exact key 1
    ·simp only [if_neg cw]
     exact key 2
end Go.AM.K

namespace Go.AM.K
set_option linter.unusedVariables false
set_option linter.unusedSimpArgs false
variable {α:Type}
theorem ayL {x:Int}{k:Bool->Option α}:Ly α x k=k (decide (5000<=x/\x<=80000)):=by rw [Ly,af,afs,Mb.f8_eq]
theorem auz {x:Int}{k:Bool->Option α}:sb α x k=k (decide (0<=x/\x<=80000)):=by rw [sb,af,Iv,Mb.f8_eq]
theorem ar2 {a b lo hi:Int}{k:Bool->Option α}:yz α a b lo hi k=k (decide ((lo<=a/\a<=hi)/\lo<=b/\b<=hi)):=by
 simp only [yz,af,Ry,Mb.f8_eq,CW]
theorem aqz {a b lo hi:Int}{k:Bool->Option α}:yB α a b lo hi k=k (decide ((lo<=a/\a<=hi)/\lo<=b/\b<=hi)):=by
 simp only [yB,af,Rz,Mb.f8_eq,CW]
theorem aom {x:Int}{k:Bool->Option α}:CY α x k=k (decide (0<=x/\x<=1)):=by
 rw [CY,af,Qt];by_cases c:x=0
 ·subst c;rfl
 ·rw [beq_eq_false_iff_ne.2 c,al]
  by_cases c1:x=1
  ·subst c1;rfl
  ·rw [beq_eq_false_iff_ne.2 c1,decide_eq_false (by omega)]
theorem ayy (l:L5){k:Int->Option α}:NX α l.1 l.2.1 l.2.2.1 l.2.2.2.1 l.2.2.2.2 k=k (uc l):=by
 simp only [NX,af,aii,ar2,sb,Iv,Mb.f8_eq,cL,aJ];unfold uc Z0;by_cases h1:(5000<=l.1/\l.1<=80000)/\5000<=l.2.1/\l.2.1<=80000
 ·rw [if_pos h1]
  by_cases h2:(0<=l.2.2.1/\l.2.2.1<=1000000)/\0<=l.2.2.2.1/\l.2.2.2.1<=1000000
  ·rw [if_pos h2]
   by_cases h3:0<=l.2.2.2.2/\l.2.2.2.2<=80000
   ·rw [if_pos h3,if_pos (decide_eq_true ⟨h1,h2,h3⟩)]
    by_cases h4:l.2.1 < l.1
    ·rw [if_pos h4,if_pos h4]
    ·rw [if_neg h4,if_neg h4]
     by_cases h5:l.2.2.2.1 < l.2.2.1
     ·rw [if_pos h5,if_pos h5]
     ·rw [if_neg h5,if_neg h5]
   ·rw [if_neg h3,if_neg (fun h=>h3 (of_decide_eq_true h).2.2)]
  ·rw [if_neg h2,if_neg (fun h=>h2 (of_decide_eq_true h).2.1)]
 ·rw [if_neg h1,if_neg (fun h=>h1 (of_decide_eq_true h).1)]
theorem aw6 (d:Dm){k:Int->Option α}:Oh α d.sh d.pol d.ix d.s1 d.s2 d.w1 d.w2 d.lo d.hi k=k (ckD d):=by
 simp only [Oh,af,ajg,JP,W5,aom,aqz,Mb.f8_eq,cL,aJ];unfold ckD;by_cases a1:0<=d.sh/\d.sh<=2
 ·rw [if_pos a1]
  by_cases a2:0<=d.pol/\d.pol<=1
  ·have hA:(0<=d.sh/\d.sh<=2)/\0<=d.pol/\d.pol<=1:=⟨a1,a2⟩
   rw [if_pos a2,if_pos hA];by_cases b1:5000<=d.ix/\d.ix<=80000
   ·rw [if_pos b1]
    by_cases b2:(0<=d.s1/\d.s1<=9999)/\0<=d.s2/\d.s2<=9999
    ·have hB:(5000<=d.ix/\d.ix<=80000)/\(0<=d.s1/\d.s1<=9999)/\0<=d.s2/\d.s2<=9999:=⟨b1,b2⟩
     rw [if_pos b2,if_pos hB];by_cases c3:d.s2 < d.s1
     ·rw [if_pos c3,if_pos c3]
     ·rw [if_neg c3,if_neg c3]
      by_cases c4:(1000<=d.w1/\d.w1<=200000)/\1000<=d.w2/\d.w2<=200000
      ·rw [if_pos c4,if_pos c4]
       by_cases c5:d.w2 < d.w1
       ·rw [if_pos c5,if_pos c5]
       ·rw [if_neg c5,if_neg c5]
        by_cases e1:0<=d.lo/\d.lo<=10000
        ·rw [if_pos e1]
         by_cases e2:0<=d.hi/\d.hi<=10000
         ·have hE:(0<=d.lo/\d.lo<=10000)/\0<=d.hi/\d.hi<=10000:=⟨e1,e2⟩
          rw [if_pos e2,if_pos hE];by_cases c7:d.hi < d.lo
          ·rw [if_pos c7,if_pos c7]
          ·rw [if_neg c7,if_neg c7]
         ·rw [if_neg e2,if_neg (fun h:(0<=d.lo/\d.lo<=10000)/\0<=d.hi/\d.hi<=10000=>e2 h.2)]
        ·rw [if_neg e1,if_neg (fun h:(0<=d.lo/\d.lo<=10000)/\0<=d.hi/\d.hi<=10000=>e1 h.1)]
      ·rw [if_neg c4,if_neg c4]
    ·rw [if_neg b2,if_neg (fun h:(5000<=d.ix/\d.ix<=80000)/\(0<=d.s1/\d.s1<=9999)/\0<=d.s2/\d.s2<=9999=>b2 h.2)]
   ·rw [if_neg b1,if_neg (fun h:(5000<=d.ix/\d.ix<=80000)/\(0<=d.s1/\d.s1<=9999)/\0<=d.s2/\d.s2<=9999=>b1 h.1)]
  ·rw [if_neg a2,if_neg (fun h:(0<=d.sh/\d.sh<=2)/\0<=d.pol/\d.pol<=1=>a2 h.2)]
 ·rw [if_neg a1,if_neg (fun h:(0<=d.sh/\d.sh<=2)/\0<=d.pol/\d.pol<=1=>a1 h.1)]
theorem azO {ds:List Dm}(hA:ds.length<=8){k1:Int->Int->Option α}{k2:Int->Bool->Option α}{Y:Option α}{K:Int->Option α}(h1:∀ x e,k1 x e=K e)(h2:∀ x b,k2 x b=Y) :
  ∀ (rest:List Dm) (i n:Nat),ds.drop i=rest->i<=ds.length->rest.length < n ->
  qR α (ds.map rD) k1 k2 n (i:Int)=if dsE rest=0 then Y else K (dsE rest):=by
 intro rest
 induction rest with
 | nil=>
  intro i n hd hi hn;obtain⟨n,rfl⟩:∃ n',n=n'+1:=⟨n - 1,by simp only [List.length_nil] at hn;omega⟩
  have hl:ds.length<=i:=List.drop_eq_nil_iff.1 hd;rw [qR];simp only [s8,List.length_map];rw [decide_eq_false (by omega),al,h2];rfl
 | cons d rs ih=>
  intro i n hd hi hn;obtain⟨n,rfl⟩:∃ n',n=n'+1:=⟨n - 1,by omega⟩
  obtain⟨hg,hd'⟩:=bT hd;have hl:i < ds.length:=(List.getElem?_eq_some_iff.1 hg).1;have hw:w64 ((i:Int)+1)=((i+1:Nat):Int):=by rw [aj (by omega) (by omega)];omega
  have hn':rs.length < n:=by simp only [List.length_cons] at hn;omega
  rw [qR];simp only [s8,List.length_map];rw [decide_eq_true (by omega),aq,oO hg,aw6,bj,h1,hw,ih (i+1) n hd' (by omega) hn'];show _=if (if ckD d=0 then dsE rs else ckD d)=0 then Y else K (if ckD d=0 then dsE rs else ckD d);by_cases c:ckD d=0
  ·rw [if_pos c,if_pos c]
  ·rw [if_neg c,if_neg c,if_neg c]
theorem azB {ds:List Dm}{k:Int->Option α}:M8 α (ds.map rD) (fun _ e=>k e)=k (dms ds):=by
 simp only [M8,af,ah0,List.length_map,gw,aJ];unfold dms;by_cases c1:ds.length=0
 ·rw [if_pos (by omega),if_pos c1]
 ·rw [if_neg (by omega),if_neg c1]
  by_cases c2:8 < ds.length
  ·rw [if_pos (by omega),if_pos c2]
  ·rw [if_neg (by omega),if_neg c2,As,af,NF]
   have hf:ds.length < aG:=by have:=bF;omega
   refine (azO (K:=k) (by omega) (fun _ _=>rfl) (fun _ _=>rfl) ds 0 aG rfl (Nat.zero_le _) hf).trans ?_;by_cases c:dsE ds=0
   ·rw [if_pos c,c]
   ·rw [if_neg c]
def onE (oi ol:Int):Int:=if 5000<=oi/\oi<=80000 then (if 0<=ol/\ol<=80000 then 0 else 2) else 2
theorem ayA {L:List L5}{i:Nat}{l:L5}(h:L[i]?=some l){f:Int->Int->Int->Int->Int->Option α}:dE (L.map rL) (i:Int) [.int .i64,.int .i64,.int .i64,.int .i64,.int .i64] f=f l.1 l.2.1 l.2.2.1 l.2.2.2.1 l.2.2.2.2:=Pd h
theorem awd {lo hi a b:Int}(h1:a<=lo/\lo<=b)(h2:a<=hi/\hi<=b)(h3:¬ hi < lo):f9 lo hi a b=0:=by
 unfold f9;rw [if_pos (by omega),if_neg h3]
theorem ayC {ls:List L5}(hA:ls.length<=40){k1:Int->Int->Option α}{k2:Int->Bool->Option α}{Y:Option α}{K:Int->Option α}(h1:∀ x e,k1 x e=K e)(h2:∀ x b,k2 x b=Y) :
  ∀ (rest:List L5) (i n:Nat),ls.drop i=rest->i<=ls.length->rest.length < n ->
  qF α (ls.map rL) k1 k2 n (i:Int)=if lsE rest=0 then Y else K (lsE rest):=by
 intro rest
 induction rest with
 | nil=>
  intro i n hd hi hn;obtain⟨n,rfl⟩:∃ n',n=n'+1:=⟨n - 1,by simp only [List.length_nil] at hn;omega⟩
  have hl:ls.length<=i:=List.drop_eq_nil_iff.1 hd;rw [qF];simp only [wM,List.length_map];rw [decide_eq_false (by omega),al,h2];rfl
 | cons l rs ih=>
  intro i n hd hi hn;obtain⟨n,rfl⟩:∃ n',n=n'+1:=⟨n - 1,by omega⟩
  obtain⟨hg,hd'⟩:=bT hd;have hl:i < ls.length:=(List.getElem?_eq_some_iff.1 hg).1;have hw:w64 ((i:Int)+1)=((i+1:Nat):Int):=by rw [aj (by omega) (by omega)];omega
  have hn':rs.length < n:=by simp only [List.length_cons] at hn;omega
  rw [qF];simp only [wM,List.length_map];rw [decide_eq_true (by omega),aq,ayA hg,ayy,bj,h1,hw,ih (i+1) n hd' (by omega) hn'];show _=if (if uc l=0 then lsE rs else uc l)=0 then Y else K (if uc l=0 then lsE rs else uc l);by_cases c:uc l=0
  ·rw [if_pos c,if_pos c]
  ·rw [if_neg c,if_neg c,if_neg c]
def ass (ls:List L5)(oi ol:Int):Int:=if 40 < ls.length then 8 else if lsE ls=0 then onE oi ol else lsE ls
theorem azu {ls:List L5}{oi ol:Int}{k:Int->Option α}:G1 α (ls.map rL) oi ol (fun _ e=>k e)=k (ass ls oi ol):=by
 rw [G1,af,alP,List.length_map,aJ];unfold ass;by_cases c0:40 < ls.length
 ·rw [if_pos (by omega),if_pos c0]
 ·have hf:ls.length < aG:=by have:=bF;omega
  rw [if_neg (by omega),if_neg c0,Ag,af,Mr];refine (ayC (K:=k) (by omega) (fun _ _=>rfl) (fun _ _=>rfl) ls 0 aG rfl (Nat.zero_le _) hf).trans ?_;by_cases c1:lsE ls=0
  ·rw [if_pos c1,if_pos c1,ayL,cL,auz,cL]
   unfold onE;by_cases c:5000<=oi/\oi<=80000
   ·rw [if_pos c,if_pos c]
    by_cases c2:0<=ol/\ol<=80000
    ·rw [if_pos c2,if_pos c2]
    ·rw [if_neg c2,if_neg c2]
   ·rw [if_neg c,if_neg c]
  ·rw [if_neg c1,if_neg c1]
theorem ab4 {d:Dm}{ds:List Dm}(h:dms (d::ds)=0):ckD d=0:=(OH h).2.2 d (List.mem_cons_self ..)
theorem OS {d:Dm}{ls:List L5}{oi ol:Int}(hd:ckD d=0):ckA (jL d ls oi ol)=ass ls oi ol:=by
 obtain⟨⟨_,a1⟩,⟨a2,a3,a4⟩,a5,⟨a6,a7⟩,a8,_⟩:=PN hd;unfold ckA jL ass onE;simp only;rw [if_pos a2,if_pos (awd a3 a4 a5),if_pos a1,if_pos (awd a6 a7 a8)];by_cases c:40 < ls.length
 ·rw [if_pos c,if_pos (by omega)]
 ·rw [if_neg c,if_neg (by omega)]
theorem ayU {ds:List Dm}{ls:List L5}{oi ol:Int}{k:Int->Option α}:M3 α (ds.map rD) (ls.map rL) oi ol (fun _ e=>k e)=k (iG ds ls oi ol):=by
 rw [M3,af,ah9];refine (azB (k:=fun e=>cK (e != 0) (k e) (G1 α (ls.map rL) oi ol fun x7 x8=>k x8))).trans ?_;rw [azu,bj];cases ds with
 | nil=>rfl
 | cons d r=>
  show _=k (if dms (d::r)=0 then ckA (jL d ls oi ol) else dms (d::r));by_cases c:dms (d::r)=0
  ·rw [if_pos c,if_pos c,OS (ab4 c)]
  ·rw [if_neg c,if_neg c]
theorem BM {ds:List Dm}{ls:List L5}{oi ol:Int}(h:iG ds ls oi ol=0):ds.length<=8/\∀ d ∈ ds,ckD d=0/\ckA (jL d ls oi ol)=0:=by
 cases ds with
 | nil=>exact absurd h (show ¬ (12:Int)=0 by decide)
 | cons d r=>
  have hd:=h;unfold iG azs at hd;simp only at hd;by_cases c:dms (d::r)=0
  ·rw [if_pos c] at hd
   obtain⟨a1,a2,a3⟩:=OH c;rw [OS (ab4 c)] at hd;exact⟨a1,fun x hx=>⟨a3 x hx,by rw [OS (a3 x hx)];exact hd⟩⟩
  ·rw [if_neg c] at hd;exact absurd hd c
theorem adw {d:Dm}(h:ckD d=0):(0<=d.sh/\d.sh<=2)/\d.pc.rt:=by
 obtain⟨⟨h1,_⟩,⟨_,h2,h3⟩,h4,⟨h5,h6⟩,h7,_⟩:=PN h;unfold Pc.rt Dm.pc;simp only;omega
theorem awz {k:Option α}:Mv α k=k:=by rw [Mv,af,agy]
theorem amb {a b:Bool}{k:Bool->Option α}:mr α a b k=k (a || b):=by rw [mr,af,MI];cases a <;> rfl
theorem aev {a b:Bool}{k:Bool->Option α}:mP α a b k=k (a || b):=by rw [mP,af,L1];cases a <;> rfl
theorem ayb {ds:List Dm}{ls:List L5}{oi ol:Int}(hl:ds.length<=8){k1:Int->Int->Int->Option α}{k2:Bool->Int->Bool->ae->Option α}{K:Int->ae->Int->Int->Int->Option α}
  (h1:∀ i w s,k1 i w s=K 0 [] i w s) (h2:∀ o i b tr,k2 o i b tr=if o=true then K 1 [] 0 0 0 else K 2 tr 0 0 0) :
  ∀ (rest:List Dm) (i n:Nat) (o:Bool) (tr:ae),(∀ d ∈ rest,ckD d=0/\ckA (jL d ls oi ol)=0)->ds.drop i=rest->i<=ds.length->rest.length < n->tr.length=i ->
  ∃ tr',mz α (ds.map rD) (ls.map rL) oi ol k1 k2 n o (i:Int) tr=K (iA ls oi ol rest (if o=true then 1 else 2) i).1 tr' (iA ls oi ol rest (if o=true then 1 else 2) i).2.1 (iA ls oi ol rest (if o=true then 1 else 2) i).2.2.1 (iA ls oi ol rest (if o=true then 1 else 2) i).2.2.2:=by
 intro rest
 induction rest with
 | nil=>
  intro i n o tr hc hd hi hn ht;obtain⟨n,rfl⟩:∃ n',n=n'+1:=⟨n - 1,by simp only [List.length_nil] at hn;omega⟩
  have hl:ds.length<=i:=List.drop_eq_nil_iff.1 hd;rw [mz];simp only [tS,List.length_map];rw [decide_eq_false (by omega),al,h2];cases o
  ·exact⟨tr,rfl⟩
  ·exact⟨[],rfl⟩
 | cons d rs ih=>
  intro i n o tr hc hd hi hn ht;obtain⟨n,rfl⟩:∃ n',n=n'+1:=⟨n - 1,by omega⟩
  obtain⟨hg,hd'⟩:=bT hd;have hl':i < ds.length:=(List.getElem?_eq_some_iff.1 hg).1;have hw:w64 ((i:Int)+1)=((i+1:Nat):Int):=by rw [aj (by omega) (by omega)];omega
  have hn':rs.length < n:=by simp only [List.length_cons] at hn;omega
  obtain⟨c1,c2⟩:=hc d (List.mem_cons_self ..);obtain⟨c3,c4⟩:=adw c1;rw [mz];simp only [tS,List.length_map];rw [decide_eq_true (by omega),aq,sO,af,LD,oO hg,awz];have ih':=fun o tr' ht=>ih (i+1) n o tr' (fun d hd=>hc d (List.mem_cons_of_mem _ hd)) hd' (by omega) hn' ht;generalize hR:mz α (ds.map rD) (ls.map rL) oi ol k1 k2 n=R at *;obtain⟨t,z,z2,e⟩:=ayf (α:=α) hg c3 c2 c4
   (k1:=fun x52 x53 x54 x55 x56=>cK x52 (k1 x53 x54 x55) (mr α o x56 fun x82=>gK (cj 1 24 tr [[DC.sl ([]:ae)]]) (R x82 (w64 ((i:Int)+1)) (tr++[[DC.sl ([]:ae)]]))))
   (k2:=fun x62 x57 x58 x59 x60 x61=>cK x57 (k1 x58 x59 x60) (mP α o x61 fun x102=>gK (cj 1 24 tr [[DC.sl x62]]) (R x102 (w64 ((i:Int)+1)) (tr++[[DC.sl x62]]))))
  refine Exists.imp (fun _ h=>e.trans h) ?_;clear e;rw [iA];cases hv:(vis d ls oi ol 5 d.pc).1 with
  | some m=>
   simp only;refine⟨[],?_⟩;by_cases c:z=true
   ·rw [if_pos c,aq,h1]
   ·rw [if_neg c,aq,h1]
  | none=>
   simp only;have ho:(if (vis d ls oi ol 5 d.pc).2=true then (1:Int) else (if o=true then 1 else 2))=if (o || (vis d ls oi ol 5 d.pc).2)=true then 1 else 2:=by
    cases o <;> cases (vis d ls oi ol 5 d.pc).2 <;> rfl
   rw [ho];by_cases c:z=true
   ·rw [if_pos c,al,amb,bO (aho (by omega) _),hw]
    exact ih' _ _ (by simp only [List.length_append,List.length_cons,List.length_nil];omega)
   ·rw [if_neg c,al,aev,bO (aho (by omega) _),hw]
    exact ih' _ _ (by simp only [List.length_append,List.length_cons,List.length_nil];omega)
theorem ayt {ds:List Dm}{ls:List L5}{oi ol:Int}(h:iG ds ls oi ol=0){k:Int->ae->Int->Int->Int->Option α} :
  ∃ tr,EU α (ds.map rD) (ls.map rL) oi ol k=k (iA ls oi ol ds 2 0).1 tr (iA ls oi ol ds 2 0).2.1 (iA ls oi ol ds 2 0).2.2.1 (iA ls oi ol ds 2 0).2.2.2:=by
 obtain⟨h1,h2⟩:=BM h;have hf:ds.length < aG:=by have:=bF;omega
 rw [EU,af,ajG,zJ,af,MZ];exact ayb h1 (K:=k) (fun _ _ _=>rfl) (fun o _ _ tr=>by rw [rq]) ds 0 aG false [] h2 rfl (Nat.zero_le _) hf rfl
theorem azA {a b lo hi:Int}{k:Int->Option α}:ML α a b lo hi k=k (f9 a b lo hi):=by
 rw [ML,af,adX,Mb.f8_eq,cL,Mb.f8_eq,cL,aJ];unfold f9;by_cases c1:lo<=a/\a<=hi
 ·rw [if_pos c1]
  by_cases c2:lo<=b/\b<=hi
  ·have c12:(lo<=a/\a<=hi)/\lo<=b/\b<=hi:=⟨c1,c2⟩
   rw [if_pos c2,if_pos c12];by_cases c3:b < a
   ·rw [if_pos c3,if_pos c3]
   ·rw [if_neg c3,if_neg c3]
  ·rw [if_neg c2,if_neg (fun h=>c2 h.2)]
 ·rw [if_neg c1,if_neg (fun h=>c1 h.1)]
theorem asa {l:List D3}(hl:l.length<=100){k1 Y:Option α}{k2:Int->Bool->Option α}(h2:∀ x b,k2 x b=Y) :
  ∀ (rest:List D3) (i n:Nat),l.drop i=rest->i<=l.length->rest.length < n->qr α (l.map rT3) k1 k2 n (i:Int)=if rest.all zB=true then Y else k1:=by
 intro rest
 induction rest with
 | nil=>
  intro i n hd hi hn;obtain⟨n,rfl⟩:∃ n',n=n'+1:=⟨n - 1,by simp only [List.length_nil] at hn;omega⟩
  have hl:l.length<=i:=List.drop_eq_nil_iff.1 hd;rw [qr];simp only [t6,List.length_map];rw [decide_eq_false (by omega),al,h2];rfl
 | cons x rs ih=>
  intro i n hd hi hn;obtain⟨n,rfl⟩:∃ n',n=n'+1:=⟨n - 1,by omega⟩
  obtain⟨hg,hd'⟩:=bT hd;have hl':i < l.length:=(List.getElem?_eq_some_iff.1 hg).1;have hw:w64 ((i:Int)+1)=((i+1:Nat):Int):=by rw [aj (by omega) (by omega)];omega
  have hn':rs.length < n:=by simp only [List.length_cons] at hn;omega
  rw [qr];simp only [t6,List.length_map];rw [decide_eq_true (by omega),aq,Gq hg,Mb.f8_eq,cL,Mb.f8_eq,cL,Mb.f8_eq,cL,hw,ih (i+1) n hd' (by omega) hn'];simp only [List.all_cons,Bool.and_eq_true];by_cases c1:5000<=x.1/\x.1<=80000
  ·rw [if_pos c1]
   by_cases c2:0<=x.2.1/\x.2.1<=80000
   ·rw [if_pos c2]
    by_cases c3:0<=x.2.2/\x.2.2<=1000000
    ·rw [if_pos c3]
     by_cases c4:rs.all zB=true
     ·rw [if_pos c4,if_pos ⟨decide_eq_true ⟨c1,c2,c3⟩,c4⟩]
     ·rw [if_neg c4,if_neg (fun h=>c4 h.2)]
    ·rw [if_neg c3,if_neg (fun h=>c3 (of_decide_eq_true h.1).2.2)]
   ·rw [if_neg c2,if_neg (fun h=>c2 (of_decide_eq_true h.1).2.1)]
  ·rw [if_neg c1,if_neg (fun h=>c1 (of_decide_eq_true h.1).1)]
theorem apd {l:List (Int × Int)}(hl:l.length<=100){k1:Int->Option α}{Y:Option α}{k2:Int->Bool->Option α}(h2:∀ x b,k2 x b=Y) :
  ∀ (rest:List (Int × Int)) (i n:Nat),l.drop i=rest->i<=l.length->rest.length < n->qP α (l.map rT2) k1 k2 n (i:Int)=if grL rest=0 then Y else k1 (grL rest):=by
 intro rest
 induction rest with
 | nil=>
  intro i n hd hi hn;obtain⟨n,rfl⟩:∃ n',n=n'+1:=⟨n - 1,by simp only [List.length_nil] at hn;omega⟩
  have hl:l.length<=i:=List.drop_eq_nil_iff.1 hd;rw [qP];simp only [uA,List.length_map];rw [decide_eq_false (by omega),al,h2];rfl
 | cons x rs ih=>
  intro i n hd hi hn;obtain⟨n,rfl⟩:∃ n',n=n'+1:=⟨n - 1,by omega⟩
  obtain⟨hg,hd'⟩:=bT hd;have hl':i < l.length:=(List.getElem?_eq_some_iff.1 hg).1;have hw:w64 ((i:Int)+1)=((i+1:Nat):Int):=by rw [aj (by omega) (by omega)];omega
  have hn':rs.length < n:=by simp only [List.length_cons] at hn;omega
  rw [qP];simp only [uA,List.length_map];rw [decide_eq_true (by omega),aq,VF hg,azA,bj,hw,ih (i+1) n hd' (by omega) hn',grL];by_cases c:f9 x.1 x.2 0 1000000=0
  ·rw [if_pos c,if_pos c]
  ·rw [if_neg c,if_neg c,if_neg c]
theorem aE6:∀ {gr:List (Int × Int)},grL gr=0->∀ r ∈ gr,r.2<=1000000:=by
 intro gr
 induction gr with
 | nil=>intro _ r hr;cases hr
 | cons x xs ih=>
  intro h r hr;unfold grL at h;by_cases c:f9 x.1 x.2 0 1000000=0
  ·rw [if_pos c] at h
   rcases List.mem_cons.1 hr with rfl | hr
   ·exact (aws c).2.2
   ·exact ih h r hr
  ·rw [if_neg c] at h;exact absurd h c
theorem as5 {des:List D3}{gr:List (Int × Int)}{er:Int}(h0:0<=er)(h1:er<=1000)(hl:des.length<=40)(hle:gr.length<=des.length)(hr:∀ r ∈ gr,r.2<=1000000){k1:Option α}{Y:List L5->Option α}{k2:Int->Bool->ae->Option α}(h2:∀ x b A,k2 x b (A.map rL)=Y A) :
  ∀ (rest:List D3) (g:List (Int × Int)) (i n:Nat) (A:List L5),des.drop i=rest->gr.drop i=g->i<=des.length->rest.length < n->A.length=i->rest.all zB=true ->
  ke α (des.map rT3) (gr.map rT2) er k1 k2 n (i:Int) (A.map rL)=if (rest.drop g.length).all (CN er)=true then Y (A++(zb rest g++(rest.drop g.length).map (bxR er))) else k1:=by
 intro rest
 induction rest with
 | nil=>
  intro g i n A hd hg hi hn hA _;obtain⟨n,rfl⟩:∃ n',n=n'+1:=⟨n - 1,by simp only [List.length_nil] at hn;omega⟩
  have hl:des.length<=i:=List.drop_eq_nil_iff.1 hd;rw [ke];simp only [vf,List.length_map];rw [decide_eq_false (by omega),al,h2,List.drop_nil];have:zb ([]:List D3) g=[]:=rfl;rw [this];simp only [List.map_nil,List.append_nil];rfl
 | cons x rs ih=>
  intro g i n A hd hg hi hn hA hb;obtain⟨n,rfl⟩:∃ n',n=n'+1:=⟨n - 1,by omega⟩
  obtain⟨hx,hd'⟩:=bT hd;have hl':i < des.length:=(List.getElem?_eq_some_iff.1 hx).1;have hw:w64 ((i:Int)+1)=((i+1:Nat):Int):=by rw [aj (by omega) (by omega)];omega
  have hn':rs.length < n:=by simp only [List.length_cons] at hn;omega
  simp only [List.all_cons,Bool.and_eq_true] at hb;obtain⟨_,_,g3⟩:=of_decide_eq_true hb.1;obtain⟨b1,b2,b3⟩:=ava h0 h1 hb.1;have m:=ld g3.1 g3.2 h0 h1;have e69:∀ k:Int->Option α,cy α (w64 (x.2.2*er)) 1000 k=k (byE er x):=fun k=>by
   rw [Mb.f69_raw (by decide),yE (by rw [aj (by omega) (by omega)];exact m.1) (by rw [aj (by omega) (by omega)];omega) (by decide) (by decide),b3]
  rw [ke];simp only [vf,List.length_map];rw [decide_eq_true (by omega),aq,Gq hx,e69,vc,af,Ng,List.length_map,aJ];cases g with
  | nil=>
   have hgl:gr.length<=i:=List.drop_eq_nil_iff.1 hg;have hg':gr.drop (i+1)=[]:=List.drop_eq_nil_iff.2 (by omega);rw [if_neg (by omega),aj (n:=x.2.2+byE er x) (by omega) (by omega),aj (n:=x.2.2 - byE er x) (by omega) (by omega),aJ];have ih':=ih [] (i+1) n (A++[bxR er x]) hd' hg' (by omega) hn' (by rw [List.length_append,List.length_cons,List.length_nil];omega) hb.2;simp only [List.length_nil,List.drop_zero,List.all_cons,Bool.and_eq_true] at ih' ⊢;by_cases c:1000000 < x.2.2+byE er x
   ·rw [if_pos c,if_neg (fun h=>by have:=of_decide_eq_true h.1;omega)]
   ·rw [if_neg c]
    change gK (cj 5 40 (A.map rL) [rL (bxR er x)]) (ke α _ _ _ k1 k2 n _ (A.map rL++[rL (bxR er x)]))=_;rw [bO (ap5 (by omega)),w8,hw,ih'];have z0:∀ l:List D3,zb l []=[]:=fun l=>by cases l <;> rfl
    rw [z0,z0];by_cases c2:rs.all (CN er)=true
    ·rw [if_pos c2,if_pos ⟨decide_eq_true (by omega),c2⟩,List.append_assoc];rfl
    ·rw [if_neg c2,if_neg (fun h=>c2 h.2)]
  | cons r gs=>
   obtain⟨hy,hg'⟩:=bT hg;have hgl:i < gr.length:=(List.getElem?_eq_some_iff.1 hy).1;have hr2:=hr r (List.mem_of_getElem? hy);rw [if_pos (by omega),VF hy,aJ,if_neg (by omega)];have ih':=ih gs (i+1) n (A++[(x.1,x.1,r.1,r.2,x.2.1)]) hd' hg' (by omega) hn' (by rw [List.length_append,List.length_cons,List.length_nil];omega) hb.2;change gK (cj 5 40 (A.map rL) [rL (x.1,x.1,r.1,r.2,x.2.1)]) (ke α _ _ _ k1 k2 n _ (A.map rL++[rL (x.1,x.1,r.1,r.2,x.2.1)]))=_;rw [bO (ap5 (by omega)),w8,hw,ih',List.length_cons,List.drop_succ_cons];by_cases c2:(rs.drop gs.length).all (CN er)=true
   ·rw [if_pos c2,if_pos c2,List.append_assoc];rfl
   ·rw [if_neg c2,if_neg c2]
theorem awE {des:List D3}{gr:List (Int × Int)}{er:Int}(hg:gr.length<=100){k:ae->Int->Option α}:MQ α (des.map rT3) (gr.map rT2) er k=k ((mw des gr er).2.map rL) (mw des gr er).1:=by
 have hf:=bF;rw [MQ,af,acu,List.length_map,List.length_map,aJ];unfold mw;by_cases c0:40 < des.length
 ·rw [if_pos (by omega),if_pos c0];rfl
 ·rw [if_neg (by omega),if_neg c0,zS,af,Ln]
  refine (asa (by omega) (fun _ _=>rfl) des 0 aG rfl (Nat.zero_le _) (by omega)).trans ?_;by_cases c1:des.all zB=true
  ·rw [if_pos c1,if_pos c1,aJ]
   by_cases c2:des.length < gr.length
   ·rw [if_pos (by omega),if_pos c2];rfl
   ·rw [if_neg (by omega),if_neg c2,Ar,af,Ls]
    refine (apd hg (fun _ _=>rfl) gr 0 aG rfl (Nat.zero_le _) (by omega)).trans ?_;by_cases c3:grL gr=0
    ·rw [if_pos c3,if_pos c3,Mb.f8_eq,cL]
     by_cases c4:0<=er/\er<=1000
     ·rw [if_pos c4,if_pos c4,zQ,af,Lq]
      refine (as5 c4.1 c4.2 (by omega) (by omega) (aE6 c3) (Y:=fun A=>k (A.map rL) 0) (fun _ _ _=>rfl) des gr 0 aG [] rfl rfl (Nat.zero_le _) (by omega) rfl c1).trans ?_;by_cases c5:(des.drop gr.length).all (CN er)=true
      ·rw [if_pos c5,if_pos c5,List.nil_append]
      ·rw [if_neg c5,if_neg c5];rfl
     ·rw [if_neg c4,if_neg c4];rfl
    ·rw [if_neg c3,if_neg c3];rfl
  ·rw [if_neg c1,if_neg c1];rfl
def O7 (des:List D3)(gr:List (Int × Int))(er:Int)(ds:List Dm)(oi ol:Int):(Int × Int × Int × Int) × Int:=
 if (mw des gr er).1=0 then
  (if iG ds (mw des gr er).2 oi ol=0 then (iA (mw des gr er).2 oi ol ds 2 0,0) else ((0,0,0,0),iG ds (mw des gr er).2 oi ol))
 else ((0,0,0,0),(mw des gr er).1)
def KR (k:Int->Int->Int->Int->Int->Option α)(u:(Int × Int × Int × Int) × Int):Option α:=k u.1.1 u.1.2.1 u.1.2.2.1 u.1.2.2.2 u.2
theorem azT {des:List D3}{gr:List (Int × Int)}{er:Int}{ds:List Dm}{oi ol:Int}(hg:gr.length<=100){k:Int->Int->Int->Int->Int->Option α} :
  GM α (des.map rT3) (gr.map rT2) er (ds.map rD) oi ol k=KR k (O7 des gr er ds oi ol):=by
 rw [GM,af,agA,awE hg,bj];unfold O7;by_cases c:(mw des gr er).1=0
 ·rw [if_pos c,if_pos c]
  refine (ayU (k:=fun e=>cK (e != 0) (k 0 0 0 0 e) (EU α (ds.map rD) ((mw des gr er).2.map rL) oi ol fun x11 x12 x13 x14 x15=>k x11 x13 x14 x15 0))).trans ?_;rw [bj];by_cases c2:iG ds (mw des gr er).2 oi ol=0
  ·rw [if_pos c2,if_pos c2]
   obtain⟨tr,e⟩:=ayt (α:=α) c2 (k:=fun x11 x12 x13 x14 x15=>k x11 x13 x14 x15 0);rw [e];rfl
  ·rw [if_neg c2,if_neg c2];rfl
 ·rw [if_neg c,if_neg c];rfl
theorem azI {des:List D3}{gr:List (Int × Int)}{er:Int}{ds:List Dm}{oi ol:Int}(hg:gr.length<=100){k:Int->Int->Int->Int->Int->Option α} :
  HB α (des.map rT3) (gr.map rT2) er (ds.map rD) oi ol k=KR k (O7 des gr er ds oi ol):=by
 rw [HB,af,afJ,aen hg,bj];unfold O7;by_cases c:(mw des gr er).1=0
 ·rw [if_pos c,if_pos c]
  obtain⟨tr,e⟩:=aw8 (α:=α) (ds:=ds) (ls:=(mw des gr er).2) (oi:=oi) (ol:=ol) (k:=fun x9 x10 x11 x12 x13 x14=>k x9 x11 x12 x13 x14);rw [e];by_cases c2:iG ds (mw des gr er).2 oi ol=0
  ·rw [if_pos c2,if_pos c2];rfl
  ·rw [if_neg c2,if_neg c2];rfl
 ·rw [if_neg c,if_neg c];rfl
end Go.AM.K

namespace Go.AM.K
set_option linter.unusedVariables false
set_option linter.unusedSimpArgs false
variable {α:Type}
theorem al8 {w s s1 s2 w1 w2:Int}(h1:w1<=w/\w<=w2)(h2:s1<=s/\s<=s2){k:Bool->Option α}:v4 α w s s1 s2 w1 w2 k=k false:=by
 rw [v4,af,L6,ry,cL,if_pos h1,ry,decide_eq_true h2,Bool.not_true]
theorem azi {ds:List Dm}{ls:List L5}{oi ol w s:Int}{i:Nat}{d:Dm}(ht:iG ds ls oi ol=0)(hd:ds[i]?=some d)(hw:d.pc.has w s)(ha:eK ((Pc.mk w w s s).dm d) ls oi ol=0){k:Int->Option α} :
  FK α (ds.map rD) (ls.map rL) oi ol (i:Int) w s k=k 0:=by
 obtain⟨t1,t2⟩:=BM ht;have hl:i < ds.length:=(List.getElem?_eq_some_iff.1 hd).1;obtain⟨c1,c2⟩:=adw (t2 d (List.mem_of_getElem? hd)).1;rw [FK,af,akE,Ac,af,MG,Vu,af,alH];cases ds with
 | nil=>simp at hl
 | cons e r=>
  refine (alt (k:=fun x7=>_)).trans ?_;have ht':(if dms (e::r)=0 then ckA (jL e ls oi ol) else dms (e::r))=0:=ht;rw [ht',bj,if_pos rfl,List.length_map,aj (by omega) (by omega),ry,cL,if_pos (by omega)];refine (oO hd).trans ?_;rw [al8 (show d.w1<=w/\w<=d.w2 from hw.1) (show d.s1<=s/\s<=d.s2 from hw.2),al,Iu];refine (Pm (d:=(Pc.mk w w s s).dm d) c1).trans ?_;rw [ha];rfl
theorem aJh {ds:List Dm}(h:ds.length<=100):cj 9 72 ([]:ae) (ds.map rD)=true:=sD (enc:=rD) (fun _=>rfl) (by simp only [List.length_nil];omega) (by simp only [List.length_nil];omega)
theorem aA8 {k:Option α}:anw α k=k:=rfl
theorem aI2 {a b c:Int}:(!((a == a) && ((b == b) && ((c == c) && true))))=false:=by simp
theorem aJR (des:List D3)(gr:List (Int × Int))(er:Int)(ds:List Dm)(oi ol:Int){k:Bool->Option α} :
  agG α (des.map rT3) (gr.map rT2) er (ds.map rD) oi ol k=k true:=by
 rw [agG,af,au6,aA8];obtain⟨b,hb,e⟩:=auy (α:=α) (des:=des) (gr:=gr) (ds:=ds) (k:=fun x7=>cK (!x7)
    (k true)
    (yT α (des.map rT3) (gr.map rT2) (ds.map rD)
     (fun (x8:ae) (x9:ae) (x10:ae)=>HB α x8 x9 er x10 oi ol
      (fun (x11:Int) (x12:Int) (x13:Int) (x14:Int) (x15:Int)=>GM α (des.map rT3) (gr.map rT2) er (ds.map rD) oi ol
       (fun (x16:Int) (x17:Int) (x18:Int) (x19:Int) (x20:Int)=>cK (x15 != x20)
        (k false)
        (cK (x11 != x16)
         (k false)
         (cK (!((x12 == x17) && ((x13 == x18) && ((x14 == x19) && true))))
          (k false)
          (cK (x20 != 0)
           (k true)
           (cK (x11 != 0)
            (k true)
            (yT α (des.map rT3) (gr.map rT2) (ds.map rD)
             (fun (x21:ae) (x22:ae) (x23:ae)=>BI α x21 x22 er
              (fun (x24:ae) (x25:Int)=>nc [x24]
               (cK (x25 == 0)
                (gK (cj 9 72 ([]:ae) (ds.map rD)) (FK α (([]:ae)++(ds.map rD)) x24 oi ol x12 x13 x14
                 (fun (x26:Int)=>k (x26 == 0))))
                (k false))))))))))))))
 refine e.trans ?_;clear e;cases b with
 | false=>rw [Bool.not_false,aq]
 | true=>
  obtain⟨h1,h2,h3⟩:=hb rfl;have hg:gr.length<=100:=by omega
  rw [Bool.not_true,al,afR (by omega) (by omega) (by omega),azI hg];dsimp only [KR];rw [azT hg];dsimp only [KR];rw [show ∀ x:Int,(x != x)=false from fun x=>by simp,al,show ∀ x:Int,(x != x)=false from fun x=>by simp,al,aI2,al,bj];by_cases c1:(O7 des gr er ds oi ol).2=0
  ·rw [if_pos c1,bj]
   by_cases c2:(O7 des gr er ds oi ol).1.1=0
   ·rw [if_pos c2,afR (by omega) (by omega) (by omega),aen hg,azm]
    unfold O7 at c1 c2 ⊢;by_cases c3:(mw des gr er).1=0
    ·rw [if_pos c3] at c1 c2 ⊢
     by_cases c4:iG ds (mw des gr er).2 oi ol=0
     ·rw [if_pos c4] at c2 ⊢
      obtain⟨j,d,j1,j2,j3⟩:=auX ds 2 0 (by decide) c2;obtain⟨t1,t2⟩:=BM c4;obtain⟨r1,r2⟩:=adw (t2 d (List.mem_of_getElem? j1)).1;obtain⟨v1,v2⟩:=azf 5 d.pc _ _ ⟨r2.1.2.1,r2.2.2.1⟩ j3;rw [c3,show ((0:Int) == 0)=true from rfl,aq,bO (aJh (by omega)),List.nil_append];dsimp only;rw [j2,Nat.zero_add];exact azi c4 j1 v1 v2
     ·rw [if_neg c4] at c1;exact absurd c1 c4
    ·rw [if_neg c3] at c1;exact absurd c1 c3
   ·rw [if_neg c2]
  ·rw [if_neg c1]
end Go.AM.K
