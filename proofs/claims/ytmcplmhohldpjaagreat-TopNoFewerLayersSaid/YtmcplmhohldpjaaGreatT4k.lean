/- Texts of one kind, put together. -/
import Derived.Test.YtmcplmhohldpjaaGreatT3x
namespace Go.AM.K
set_option linter.unusedVariables false
set_option linter.unusedSimpArgs false
variable {α:Type}
def wA (x m:Int):Int:=if Int.tmod x m < 0 then Int.tmod x m+m else Int.tmod x m
theorem Mn {x m:Int}(h:0 < m):-m < Int.tmod x m/\Int.tmod x m < m:=by
 have e:(Int.tmod x m).natAbs=x.natAbs % m.natAbs:=Int.natAbs_tmod ..
 have:=Nat.mod_lt x.natAbs (show m.natAbs > 0 by omega)
 omega
theorem JP {x m:Int}(h:0 < m):0<=wA x m/\wA x m < m:=by
 have:=Mn (x:=x) h
 unfold wA
 split <;> omega
theorem ST {x m:Int}(h:0 < m)(h2:m<=4611686018427387904){k:Int->Option α}:Cu α x m k=k (wA x m):=by
 have:=Mn (x:=x) h
 rw [Cu,af,YQ,cJ (bne_iff_ne.2 (by omega)),bi]
 unfold wA
 by_cases c:Int.tmod x m < 0
 ·rw [if_pos c,if_pos c,ak (by omega) (by omega)]
 ·rw [if_neg c,if_neg c]
def ptI (lo hi at_:Int):Int:=lo+wA at_ (hi - lo+1)
def rgI (lo hi:Int):Prop:=0<=lo/\lo<=hi/\hi<=1000000000
theorem Gr {lo hi x:Int}(h:rgI lo hi):lo<=ptI lo hi x/\ptI lo hi x<=hi:=by
 unfold rgI at h
 have:=JP (x:=x) (m:=hi - lo+1) (by omega)
 unfold ptI
 omega
theorem SP {lo hi x:Int}(h:rgI lo hi){k:Int->Int->Option α}:C5 α lo hi x k=k (ptI lo hi x) (ptI lo hi x):=by
 have h':=h
 unfold rgI at h'
 have hb:=Gr (x:=x) h
 rw [C5,af,ZN,ak (n:=hi - lo) (by omega) (by omega),ak (n:=hi - lo+1) (by omega) (by omega),ST (by omega) (by omega)]
 unfold ptI at hb ⊢
 rw [ak (by omega) (by omega)]
def l5P (a b:Int)(l:L5):L5:=(ptI l.1 l.2.1 a,ptI l.1 l.2.1 a,ptI l.2.2.1 l.2.2.2.1 b,ptI l.2.2.1 l.2.2.2.1 b,l.2.2.2.2)
theorem NM {ls:List L5}(h:lsE ls=0):∀ {i:Nat} {l:L5},ls[i]?=some l->rgI l.1 l.2.1/\rgI l.2.2.1 l.2.2.2.1:=by
 induction ls with
 | nil=>intro i l hl;simp at hl
 | cons x xs ih=>
  intro i l hl
  unfold lsE at h
  by_cases c:jA x=0
  ·rw [if_pos c] at h
   cases i with
   | zero=>
    simp only [List.getElem?_cons_zero,Option.some.injEq] at hl
    subst hl
    unfold jA at c
    by_cases c2:BF x=true
    ·rw [if_pos c2] at c
     have hb:=of_decide_eq_true c2
     by_cases c3:x.2.1 < x.1
     ·rw [if_pos c3] at c;exact absurd c (by decide)
     ·rw [if_neg c3] at c
      by_cases c4:x.2.2.2.1 < x.2.2.1
      ·rw [if_pos c4] at c;exact absurd c (by decide)
      ·unfold rgI;omega
    ·rw [if_neg c2] at c;exact absurd c (by decide)
   | succ i=>exact ih h (by simpa using hl)
  ·rw [if_neg c] at h;exact absurd h c
def xsP (a b:Int)(ls:List L5):List (Int × Int × Int):=ls.map fun l=>(ptI l.1 l.2.1 a,ptI l.2.2.1 l.2.2.2.1 b,l.2.2.2.2)
theorem aqS {a b:Int}:∀ {ls:List L5},lsE ls=0->DM ls (xsP a b ls)/\DM (ls.map (l5P a b)) (xsP a b ls):=by
 intro ls
 induction ls with
 | nil=>intro _;exact⟨trivial,trivial⟩
 | cons l rs ih=>
  intro h
  have h0:=NM h (i:=0) rfl
  have hr:lsE rs=0:=by
   unfold lsE at h
   by_cases c:jA l=0
   ·rw [if_pos c] at h;exact h
   ·rw [if_neg c] at h;exact absurd h c
  obtain⟨i1,i2⟩:=ih hr
  have p1:=Gr (x:=a) h0.1
  have p2:=Gr (x:=b) h0.2
  exact⟨⟨⟨p1,p2,rfl⟩,i1⟩,⟨⟨⟨Int.le_refl _,Int.le_refl _⟩,⟨Int.le_refl _,Int.le_refl _⟩,rfl⟩,i2⟩⟩
def ptD (d:Dm)(w s:Int)(xs:List (Int × Int × Int))(oi ol:Int):Pt:=⟨d.ix,s,d.pol,w,xs,oi,ol⟩
theorem XI {ls:List L5}{oi ol:Int}:∀ (rest:List Dm) (a:Int) (i:Nat),(fH ls oi ol rest a i).1=2->a=2/\∀ d ∈ rest,vis d ls oi ol 5 d.pc=(none,false):=by
 intro rest
 induction rest with
 | nil=>intro a i h;exact⟨h,fun d hd=>by cases hd⟩
 | cons d rs ih=>
  intro a i h
  rw [fH] at h
  cases hv:(vis d ls oi ol 5 d.pc).1 with
  | some m=>rw [hv] at h;exact absurd h (show ¬ (0:Int)=2 by decide)
  | none=>
   rw [hv] at h
   simp only at h
   obtain⟨h1,h2⟩:=ih _ _ h
   by_cases c:(vis d ls oi ol 5 d.pc).2=true
   ·rw [if_pos c] at h1;exact absurd h1 (by decide)
   ·rw [if_neg c] at h1
    refine⟨h1,fun e he=>?_⟩
    rcases List.mem_cons.1 he with rfl | he
    ·exact Prod.ext hv (by simpa using c)
    ·exact h2 e he
theorem aet {ls:List L5}{oi ol:Int}:∀ (rest:List Dm) (a:Int) (i:Nat),a ≠ 0->(fH ls oi ol rest a i).1=0->∃ (j:Nat) (d:Dm),rest[j]?=some d/\(fH ls oi ol rest a i).2.1=((i+j:Nat):Int) /\
  (vis d ls oi ol 5 d.pc).1=some ((fH ls oi ol rest a i).2.2.1,(fH ls oi ol rest a i).2.2.2):=by
 intro rest
 induction rest with
 | nil=>intro a i ha h;exact absurd h ha
 | cons d rs ih=>
  intro a i ha h
  rw [fH] at h ⊢
  cases hv:(vis d ls oi ol 5 d.pc).1 with
  | some m=>
   simp only
   exact⟨0,d,rfl,rfl,hv⟩
  | none=>
   rw [hv] at h
   simp only at h ⊢
   have ha':(if (vis d ls oi ol 5 d.pc).2=true then (1:Int) else a) ≠ 0:=by
    by_cases c:(vis d ls oi ol 5 d.pc).2=true
    ·rw [if_pos c];decide
    ·rw [if_neg c];exact ha
   obtain⟨j,e,h1,h2,h3⟩:=ih _ (i+1) ha' h
   exact⟨j+1,e,by simpa using h1,by rw [h2];omega,h3⟩
theorem afO {a b:Int}{x y:Option α}:cK (a != b) x y=if a=b then y else x:=by
 by_cases h:a=b
 ·rw [if_pos h,h,show (b != b)=false by simp];rfl
 ·rw [if_neg h,bne_iff_ne.2 h,aq]
theorem aiP {ls:List L5}(h:ls.length<=42){k:ae->Option α}:Hc α (ls.map rL) k=k (ls.map rL):=by
 rw [Hc,af,Zr,cJ (lN (enc:=rL) (fun _=>rfl) (by simp only [List.length_nil];omega) (by simp only [List.length_nil];omega)),List.nil_append]
end Go.AM.K

namespace Go.AM.K
set_option linter.unusedVariables false
set_option linter.unusedSimpArgs false
variable {α:Type}
theorem qj {n lo hi:Int}{k:Bool->Option α}:iq α n lo hi k=k (decide (lo<=n/\n<=hi)):=by
 rw [iq,af,Tr];exact Cl
theorem alS {a b lo hi:Int}{k:Bool->Option α}:CM α a b lo hi k=k (decide ((lo<=a/\a<=hi)/\lo<=b/\b<=hi)):=by
 simp only [CM,af,VR,qj,Cl]
theorem agN {a b lo hi:Int}{k:Bool->Option α}:uu α a b lo hi k=k (decide ((lo<=a/\a<=hi)/\lo<=b/\b<=hi)):=by
 simp only [uu,af,Na,qj,Cl]
theorem aej {x:Int}{k:Bool->Option α}:A5 α x k=k (decide (0<=x/\x<=1)):=by
 rw [A5,af,PR]
 by_cases c:x=0
 ·subst c;rfl
 ·rw [beq_eq_false_iff_ne.2 c,ap]
  by_cases c1:x=1
  ·subst c1;rfl
  ·rw [beq_eq_false_iff_ne.2 c1,decide_eq_false (by omega)]
theorem ajs (l:L5){k:Int->Option α}:Cx α l.1 l.2.1 l.2.2.1 l.2.2.2.1 l.2.2.2.2 k=k (jA l):=by
 simp only [Cx,af,TD,alS,CS,Jg,qj,ra,bi]
 unfold jA BF
 by_cases h1:(5000<=l.1/\l.1<=80000)/\5000<=l.2.1/\l.2.1<=80000
 ·rw [if_pos h1]
  by_cases h2:(0<=l.2.2.1/\l.2.2.1<=1000000)/\0<=l.2.2.2.1/\l.2.2.2.1<=1000000
  ·rw [if_pos h2]
   by_cases h3:0<=l.2.2.2.2/\l.2.2.2.2<=80000
   ·rw [if_pos h3,if_pos (decide_eq_true ⟨h1,h2,h3⟩)]
    by_cases h4:l.2.1 < l.1
    ·rw [if_pos h4,if_pos h4]
    ·rw [if_neg h4,if_neg h4]
     by_cases h5:l.2.2.2.1 < l.2.2.1
     ·rw [if_pos h5,if_pos h5]
     ·rw [if_neg h5,if_neg h5]
   ·rw [if_neg h3,if_neg (fun h=>h3 (of_decide_eq_true h).2.2)]
  ·rw [if_neg h2,if_neg (fun h=>h2 (of_decide_eq_true h).2.1)]
 ·rw [if_neg h1,if_neg (fun h=>h1 (of_decide_eq_true h).1)]
theorem abw (d:Dm){k:Int->Option α}:AD α d.sh d.pol d.ix d.s1 d.s2 d.w1 d.w2 d.lo d.hi k=k (ckD d):=by
 simp only [AD,af,Ls,EY,O0,aej,agN,qj,ra,bi]
 unfold ckD
 by_cases a1:0<=d.sh/\d.sh<=2
 ·rw [if_pos a1]
  by_cases a2:0<=d.pol/\d.pol<=1
  ·have hA:(0<=d.sh/\d.sh<=2)/\0<=d.pol/\d.pol<=1:=⟨a1,a2⟩
   rw [if_pos a2,if_pos hA]
   by_cases b1:5000<=d.ix/\d.ix<=80000
   ·rw [if_pos b1]
    by_cases b2:(0<=d.s1/\d.s1<=9999)/\0<=d.s2/\d.s2<=9999
    ·have hB:(5000<=d.ix/\d.ix<=80000)/\(0<=d.s1/\d.s1<=9999)/\0<=d.s2/\d.s2<=9999:=⟨b1,b2⟩
     rw [if_pos b2,if_pos hB]
     by_cases c3:d.s2 < d.s1
     ·rw [if_pos c3,if_pos c3]
     ·rw [if_neg c3,if_neg c3]
      by_cases c4:(1000<=d.w1/\d.w1<=200000)/\1000<=d.w2/\d.w2<=200000
      ·rw [if_pos c4,if_pos c4]
       by_cases c5:d.w2 < d.w1
       ·rw [if_pos c5,if_pos c5]
       ·rw [if_neg c5,if_neg c5]
        by_cases e1:0<=d.lo/\d.lo<=10000
        ·rw [if_pos e1]
         by_cases e2:0<=d.hi/\d.hi<=10000
         ·have hE:(0<=d.lo/\d.lo<=10000)/\0<=d.hi/\d.hi<=10000:=⟨e1,e2⟩
          rw [if_pos e2,if_pos hE]
          by_cases c7:d.hi < d.lo
          ·rw [if_pos c7,if_pos c7]
          ·rw [if_neg c7,if_neg c7]
         ·rw [if_neg e2,if_neg (fun h:(0<=d.lo/\d.lo<=10000)/\0<=d.hi/\d.hi<=10000=>e2 h.2)]
        ·rw [if_neg e1,if_neg (fun h:(0<=d.lo/\d.lo<=10000)/\0<=d.hi/\d.hi<=10000=>e1 h.1)]
      ·rw [if_neg c4,if_neg c4]
    ·rw [if_neg b2,if_neg (fun h:(5000<=d.ix/\d.ix<=80000)/\(0<=d.s1/\d.s1<=9999)/\0<=d.s2/\d.s2<=9999=>b2 h.2)]
   ·rw [if_neg b1,if_neg (fun h:(5000<=d.ix/\d.ix<=80000)/\(0<=d.s1/\d.s1<=9999)/\0<=d.s2/\d.s2<=9999=>b1 h.1)]
  ·rw [if_neg a2,if_neg (fun h:(0<=d.sh/\d.sh<=2)/\0<=d.pol/\d.pol<=1=>a2 h.2)]
 ·rw [if_neg a1,if_neg (fun h:(0<=d.sh/\d.sh<=2)/\0<=d.pol/\d.pol<=1=>a1 h.1)]
theorem ail {ds:List Dm}(hA:ds.length<=8){k1:Int->Int->Option α}{k2:Int->Bool->Option α}{Y:Option α}{K:Int->Option α}(h1:∀ x e,k1 x e=K e)(h2:∀ x b,k2 x b=Y) :
  ∀ (rest:List Dm) (i n:Nat),ds.drop i=rest->i<=ds.length->rest.length < n ->
  oN α (ds.map rD) k1 k2 n (i:Int)=if dsE rest=0 then Y else K (dsE rest):=by
 intro rest
 induction rest with
 | nil=>
  intro i n hd hi hn
  obtain⟨n,rfl⟩:∃ n',n=n'+1:=⟨n - 1,by simp only [List.length_nil] at hn;omega⟩
  have hl:ds.length<=i:=List.drop_eq_nil_iff.1 hd
  rw [oN]
  simp only [tN,List.length_map]
  rw [decide_eq_false (by omega),ap,h2]
  rfl
 | cons d rs ih=>
  intro i n hd hi hn
  obtain⟨n,rfl⟩:∃ n',n=n'+1:=⟨n - 1,by omega⟩
  obtain⟨hg,hd'⟩:=fX hd
  have hl:i < ds.length:=(List.getElem?_eq_some_iff.1 hg).1
  have hw:w64 ((i:Int)+1)=((i+1:Nat):Int):=by rw [ak (by omega) (by omega)];omega
  have hn':rs.length < n:=by simp only [List.length_cons] at hn;omega
  rw [oN]
  simp only [tN,List.length_map]
  rw [decide_eq_true (by omega),aq,BK hg,abw,eE,h1,hw,ih (i+1) n hd' (by omega) hn']
  show _=if (if ckD d=0 then dsE rs else ckD d)=0 then Y else K (if ckD d=0 then dsE rs else ckD d)
  by_cases c:ckD d=0
  ·rw [if_pos c,if_pos c]
  ·rw [if_neg c,if_neg c,if_neg c]
theorem ajx {ds:List Dm}{k:Int->Option α}:G2 α (ds.map rD) (fun _ e=>k e)=k (dms ds):=by
 simp only [G2,af,YS,List.length_map,nq,bi]
 unfold dms
 by_cases c1:ds.length=0
 ·rw [if_pos (by omega),if_pos c1]
 ·rw [if_neg (by omega),if_neg c1]
  by_cases c2:8 < ds.length
  ·rw [if_pos (by omega),if_pos c2]
  ·rw [if_neg (by omega),if_neg c2,xj,af,HI]
   have hf:ds.length < aN:=by have:=cB;omega
   refine (ail (K:=k) (by omega) (fun _ _=>rfl) (fun _ _=>rfl) ds 0 aN rfl (Nat.zero_le _) hf).trans ?_
   by_cases c:dsE ds=0
   ·rw [if_pos c,c]
   ·rw [if_neg c]
def onE (oi ol:Int):Int:=if 5000<=oi/\oi<=80000 then (if 0<=ol/\ol<=80000 then 0 else 2) else 2
theorem aig {oi ol:Int}{k:Int->Option α}:Ht α [] oi ol (fun _ e=>k e)=k (onE oi ol):=by
 obtain⟨n,hn⟩:∃ n,aN=n+1:=⟨aN - 1,by have:=cB;omega⟩
 rw [Ht,af,ZS,xy,af,F7,hn,xr]
 simp only [wT]
 show yq α oi _=_
 simp only [yq,af,NQ,CS,Jg,qj,ra]
 unfold onE
 by_cases c:5000<=oi/\oi<=80000
 ·rw [if_pos c,if_pos c]
  by_cases c2:0<=ol/\ol<=80000
  ·rw [if_pos c2,if_pos c2]
  ·rw [if_neg c2,if_neg c2]
 ·rw [if_neg c,if_neg c]
theorem Jc {L:List L5}{i:Nat}{l:L5}(h:L[i]?=some l){f:Int->Int->Int->Int->Int->Option α}:gI (L.map rL) (i:Int) [.int .i64,.int .i64,.int .i64,.int .i64,.int .i64] f=f l.1 l.2.1 l.2.2.1 l.2.2.2.1 l.2.2.2.2:=Z9 h
theorem akH {ls:List L5}(hA:ls.length<=40){k1:Int->Int->Option α}{k2:Int->Bool->Option α}{Y:Option α}{K:Int->Option α}(h1:∀ x e,k1 x e=K e)(h2:∀ x b,k2 x b=Y) :
  ∀ (rest:List L5) (i n:Nat),ls.drop i=rest->i<=ls.length->rest.length < n ->
  oU α (ls.map rL) k1 k2 n (i:Int)=if lsE rest=0 then Y else K (lsE rest):=by
 intro rest
 induction rest with
 | nil=>
  intro i n hd hi hn
  obtain⟨n,rfl⟩:∃ n',n=n'+1:=⟨n - 1,by simp only [List.length_nil] at hn;omega⟩
  have hl:ls.length<=i:=List.drop_eq_nil_iff.1 hd
  rw [oU]
  simp only [tI,List.length_map]
  rw [decide_eq_false (by omega),ap,h2]
  rfl
 | cons l rs ih=>
  intro i n hd hi hn
  obtain⟨n,rfl⟩:∃ n',n=n'+1:=⟨n - 1,by omega⟩
  obtain⟨hg,hd'⟩:=fX hd
  have hl:i < ls.length:=(List.getElem?_eq_some_iff.1 hg).1
  have hw:w64 ((i:Int)+1)=((i+1:Nat):Int):=by rw [ak (by omega) (by omega)];omega
  have hn':rs.length < n:=by simp only [List.length_cons] at hn;omega
  rw [oU]
  simp only [tI,List.length_map]
  rw [decide_eq_true (by omega),aq,Jc hg,ajs,eE,h1,hw,ih (i+1) n hd' (by omega) hn']
  show _=if (if jA l=0 then lsE rs else jA l)=0 then Y else K (if jA l=0 then lsE rs else jA l)
  by_cases c:jA l=0
  ·rw [if_pos c,if_pos c]
  ·rw [if_neg c,if_neg c,if_neg c]
structure alF (d:Dm)(ops:List L5)(oi ol most:Int):Prop where
 cd:ckD d=0
 on:(5000<=oi/\oi<=80000)/\0<=ol/\ol<=80000
 cl:lsE ops=0
 ne:ops ≠ []
 len:ops.length<=3
 mst:0<=most/\most<=3
theorem Ws {d:Dm}:dms [d]=ckD d:=by
 unfold dms dsE
 simp only [List.length_cons,List.length_nil]
 rw [if_neg (by omega),if_neg (by omega)]
 by_cases c:ckD d=0
 ·rw [if_pos c,c];rfl
 ·rw [if_neg c]
theorem alj {d:Dm}{ops:List L5}{oi ol most:Int}:∃ e:Int,(e=0->alF d ops oi ol most)/\∀ k:Int->Option α,Dv α ([d].map rD) (ops.map rL) oi ol most (fun _ e=>k e)=k e:=by
 have hk:∀ k:Int->Option α,Dv α ([d].map rD) (ops.map rL) oi ol most (fun _ e=>k e)=if ckD d=0 then (if onE oi ol=0 then (if ops.length=0 then k 12 else if 3 < ops.length then k 8 else if lsE ops=0 then (if 0<=most/\most<=3 then k 0 else k 2) else k (lsE ops)) else k (onE oi ol)) else k (ckD d):=fun k=>by
  rw [Dv,af,Zt,Ll,af,Tj]
  refine (ajx (k:=fun e=>_)).trans ?_
  simp only [Ws]
  rw [eE]
  by_cases c1:ckD d=0
  ·rw [if_pos c1,if_pos c1]
   refine (aig (k:=fun e=>_)).trans ?_
   rw [eE]
   by_cases c2:onE oi ol=0
   ·rw [if_pos c2,if_pos c2]
    simp only [List.length_map,nq,bi]
    by_cases c3:ops.length=0
    ·rw [if_pos (by omega),if_pos c3]
    ·rw [if_neg (by omega),if_neg c3]
     by_cases c4:3 < ops.length
     ·rw [if_pos (by omega),if_pos c4]
     ·rw [if_neg (by omega),if_neg c4,ye,af,GP]
      have hf:ops.length < aN:=by have:=cB;omega
      refine (akH (K:=k) (by omega) (fun _ _=>rfl) (fun _ _=>rfl) ops 0 aN rfl (Nat.zero_le _) hf).trans ?_
      simp only [qj,ra]
   ·rw [if_neg c2,if_neg c2]
  ·rw [if_neg c1,if_neg c1,eE,if_neg c1]
 by_cases c1:ckD d=0
 ·by_cases c2:onE oi ol=0
  ·have hon:(5000<=oi/\oi<=80000)/\0<=ol/\ol<=80000:=by
    unfold onE at c2
    by_cases a:5000<=oi/\oi<=80000
    ·rw [if_pos a] at c2
     by_cases b:0<=ol/\ol<=80000
     ·exact⟨a,b⟩
     ·rw [if_neg b] at c2;cases c2
    ·rw [if_neg a] at c2;cases c2
   simp only [if_pos c1,if_pos c2] at hk
   by_cases c3:ops.length=0
   ·exact⟨12,fun h=>absurd h (by decide),fun k=>by rw [hk,if_pos c3]⟩
   ·by_cases c4:3 < ops.length
    ·exact⟨8,fun h=>absurd h (by decide),fun k=>by rw [hk,if_neg c3,if_pos c4]⟩
    ·by_cases c5:lsE ops=0
     ·by_cases c6:0<=most/\most<=3
      ·exact⟨0,fun _=>⟨c1,hon,c5,fun h=>c3 (by rw [h];rfl),by omega,c6⟩,fun k=>by rw [hk,if_neg c3,if_neg c4,if_pos c5,if_pos c6]⟩
      ·exact⟨2,fun h=>absurd h (by decide),fun k=>by rw [hk,if_neg c3,if_neg c4,if_pos c5,if_neg c6]⟩
     ·exact⟨lsE ops,fun h=>absurd h c5,fun k=>by rw [hk,if_neg c3,if_neg c4,if_neg c5]⟩
  ·exact⟨onE oi ol,fun h=>absurd h c2,fun k=>by rw [hk,if_pos c1,if_neg c2]⟩
 ·exact⟨ckD d,fun h=>absurd h c1,fun k=>by rw [hk,if_neg c1]⟩
theorem ag3 {lo hi a b:Int}(h1:a<=lo/\lo<=b)(h2:a<=hi/\hi<=b)(h3:¬ hi < lo):ma lo hi a b=0:=by
 unfold ma
 rw [if_pos (by omega),if_neg h3]
theorem Wq {d:Dm}{ls:List L5}{oi ol:Int}(hd:ckD d=0)(ho:(5000<=oi/\oi<=80000)/\0<=ol/\ol<=80000)(h:lsE ls=0)(hl:ls.length<=40):ckA (py d ls oi ol)=0:=by
 obtain⟨⟨_,a1⟩,⟨a2,a3,a4⟩,a5,⟨a6,a7⟩,a8,_⟩:=Uw hd
 unfold ckA py
 simp only
 rw [if_pos a2,if_pos (ag3 a3 a4 a5),if_pos a1,if_pos (ag3 a6 a7 a8),if_neg (by omega),if_pos h,if_pos ho.1,if_pos ho.2]
theorem aiq {d:Dm}{ls:List L5}{oi ol:Int}(hd:ckD d=0)(ho:(5000<=oi/\oi<=80000)/\0<=ol/\ol<=80000)(h:lsE ls=0)(hl:ls.length<=40):z3 [d] ls oi ol=0:=by
 show (if dms [d]=0 then ckA (py d ls oi ol) else dms [d])=0
 rw [Ws,if_pos hd,Wq hd ho h hl]
theorem ain {d:Dm}{ops:List L5}{oi ol most:Int}(h:alF d ops oi ol most){k:Int->Option α}:IE α ([d].map rD) (ops.map rL) oi ol most (fun _ e=>k e)=k 0:=by
 rw [IE,af,Wy]
 refine (WG (ls:=[]) (k:=fun e=>_)).trans ?_
 rw [Ws,if_pos h.cd,Wq h.cd h.on rfl (Nat.zero_le _)]
 have hl:=h.len
 have hne:ops.length ≠ 0:=fun e=>h.ne (List.eq_nil_of_length_eq_zero e)
 rw [show ((0:Int) != 0)=false from rfl,ap,List.length_map,nq,if_neg (by omega),bi,if_neg (by omega)]
 refine (BK (i:=0) (d:=d) rfl).trans ?_
 rw [wn,af,Fy,v6,af,EL]
 refine (JX (py d ops oi ol) (k:=fun e=>_)).trans ?_
 rw [Wq h.cd h.on h.cl (by omega),show ((0:Int) != 0)=false from rfl,ap,yX,decide_eq_true h.mst]
 rfl
end Go.AM.K

namespace Go.AM.K
set_option linter.unusedVariables false
set_option linter.unusedSimpArgs false
variable {α:Type}
def pick (ops:List L5)(l:List Int):List L5:=l.map fun x=>ops.getD x.toNat (0,0,0,0,0)
def inL (c:Nat)(l:List Int):Prop:=∀ x ∈ l,0<=x/\x < (c:Int)
theorem ap5 {A:List L5}{o:L5}(h:A.length<=100):dv 5 40 (A.map rL) [rL o]=true:=
 lN (enc:=rL) (l:=[o]) (fun _=>rfl) (by simp only [List.length_map,List.length_cons,List.length_nil];omega) (by simp only [List.length_map,List.length_cons,List.length_nil];omega)
theorem aiw {ops:List L5}{l:List Int}(hl:l.length<=40)(h:inL ops.length l){k1:Int->Bool->ae->Option α}{K:List L5->Option α}(hk:∀ x b M,k1 x b (M.map rL)=K M) :
  ∀ (rest:List Int) (i n:Nat) (A:List L5),l.drop i=rest->i<=l.length->rest.length < n->A.length=i ->
  lM α (l.map rI1) (l.length:Int) (ops.map rL) k1 n (i:Int) (A.map rL)=K (A++pick ops rest):=by
 intro rest
 induction rest with
 | nil=>
  intro i n A hd hi hn hA
  obtain⟨n,rfl⟩:∃ n',n=n'+1:=⟨n - 1,by simp only [List.length_nil] at hn;omega⟩
  have hl:l.length<=i:=List.drop_eq_nil_iff.1 hd
  rw [lM]
  simp only [qR]
  rw [decide_eq_false (by omega),ap,hk]
  show _=K (A++[])
  rw [List.append_nil]
 | cons x rs ih=>
  intro i n A hd hi hn hA
  obtain⟨n,rfl⟩:∃ n',n=n'+1:=⟨n - 1,by omega⟩
  obtain⟨hg,hd'⟩:=fX hd
  obtain⟨hl',hx⟩:=List.getElem?_eq_some_iff.1 hg
  have hw:w64 ((i:Int)+1)=((i+1:Nat):Int):=by rw [ak (by omega) (by omega)];omega
  have hn':rs.length < n:=by simp only [List.length_cons] at hn;omega
  have hxr:=h x (List.mem_of_getElem? hg)
  obtain⟨m,rfl⟩:∃ m:Nat,x=(m:Int):=⟨x.toNat,by omega⟩
  have hm:ops[m]?=some (ops.getD m (0,0,0,0,0)):=by
   rw [List.getD_eq_getElem?_getD,List.getElem?_eq_getElem (by omega)];rfl
  rw [lM]
  simp only [qR]
  rw [decide_eq_true (by omega),aq,aki hl',hx,Jc hm]
  generalize ho:ops.getD m (0,0,0,0,0)=o at *
  change gK (dv 5 40 (A.map rL) [rL o]) (lM α _ _ _ k1 n _ (A.map rL++[rL o]))=_
  have e:A.map rL++[rL o]=(A++[o]).map rL:=by rw [List.map_append];rfl
  rw [cJ (ap5 (by omega)),hw,e,ih (i+1) n (A++[o]) hd' (by omega) hn' (by rw [List.length_append,List.length_cons,List.length_nil];omega)]
  show K (A++[o]++pick ops rs)=K (A++(ops.getD (m:Int).toNat (0,0,0,0,0)::pick ops rs))
  rw [Int.toNat_natCast,ho,List.append_assoc];rfl
theorem ajb {ops:List L5}{l:List Int}(hl:l.length<=40)(h:inL ops.length l){k:ae->Option α}:IF α (ops.map rL) (l.map rI1) k=k ((pick ops l).map rL):=by
 rw [IF,af,Ys,xP,af,It,List.length_map]
 exact aiw (K:=fun M=>k (M.map rL)) hl h (fun _ _ _=>rfl) l 0 aN [] rfl (Nat.zero_le _) (by have:=cB;omega) rfl
theorem akn {ds:List Dm}{ls:List L5}{oi ol:Int}(h1:ds.length<=8)(h2:∀ d ∈ ds,ckD d=0){k:Int->ae->Int->Int->Int->Option α} :
  ∃ tr,vF α (ds.map rD) (ls.map rL) oi ol k=k (fH ls oi ol ds 2 0).1 tr (fH ls oi ol ds 2 0).2.1 (fH ls oi ol ds 2 0).2.2.1 (fH ls oi ol ds 2 0).2.2.2:=by
 have hf:ds.length < aN:=by have:=cB;omega
 obtain⟨tr,e⟩:=aaC (α:=α) (ds:=ds) (ls:=ls) (oi:=oi) (ol:=ol) h1 (k1:=fun x112 x113 x114=>k 0 [] x112 x113 x114)
  (k2:=fun x115 x116 x117 x118=>cK (x115 != 2) (k x115 [] 0 0 0) (k x115 x118 0 0 0)) (K:=fun a t i w s=>k a t i w s) (fun _ _ _=>rfl)
  (fun a i b tr=>OI) ds 0 aN 2 [] h2 rfl (Nat.zero_le _) hf rfl (Or.inr rfl)
 refine⟨tr,?_⟩
 rw [vF,af,J7,sC,af,zG,List.length_map]
 exact e
theorem akl {ls:List L5}{oi ol:Int}:∀ (rest:List Dm) (a:Int) (i:Nat),(a=1\/a=2)->(fH ls oi ol rest a i).1=0\/(fH ls oi ol rest a i).1=1\/(fH ls oi ol rest a i).1=2:=by
 intro rest
 induction rest with
 | nil=>intro a i h;exact Or.inr h
 | cons d rs ih=>
  intro a i h
  rw [fH]
  cases hv:(vis d ls oi ol 5 d.pc).1 with
  | some m=>exact Or.inl rfl
  | none=>
   simp only
   refine ih _ _ ?_
   by_cases c:(vis d ls oi ol 5 d.pc).2=true
   ·rw [if_pos c];exact Or.inl rfl
   ·rw [if_neg c];exact h
def ln (ds:List Dm)(ops:List L5)(oi ol:Int)(l:List Int):Int:=(fH (pick ops l) oi ol ds 2 0).1
def vL (l:List Int):List Value:=l.map (Value.int .i64)
theorem aeb (l:List Int):OS (vL l)=l.map rI1:=by unfold vL OS;rw [List.map_map];rfl
theorem ap3 {P:List (Int × Int × Int)}{x:Int × Int × Int}(h:P.length<=1000):dv 3 24 (P.map rI3) [rI3 x]=true:=
 lN (enc:=rI3) (l:=[x]) (fun _=>rfl) (by simp only [List.length_map,List.length_cons,List.length_nil];omega) (by simp only [List.length_map,List.length_cons,List.length_nil];omega)
theorem ajH {ds:List Dm}{ops:List L5}{oi ol:Int}(h1:ds.length<=8)(h2:∀ d ∈ ds,ckD d=0){k1:ae->Bool->Option α}{k2:ae->ae->ae->Bool->Option α} :
  ∀ (ys:List (List Int)) (ps:List (Int × Int × Int)) (u:Bool),(∀ l ∈ ys,l.length<=40/\inL ops.length l)->ps.length+ys.length<=1000 ->
  (∃ l ∈ ys,ln ds ops oi ol l=2/\∃ tr P b,dU α (ds.map rD) (ops.map rL) oi ol k1 k2 (ys.map vL) (ps.map rI3) u=k2 (l.map rI1) tr P b) \/
  ∃ (qs:List (Int × Int × Int)) (b:Bool),(b=false->u=false/\∀ l ∈ ys,ln ds ops oi ol l=0)/\qs.length=ps.length+ys.length/\dU α (ds.map rD) (ops.map rL) oi ol k1 k2 (ys.map vL) (ps.map rI3) u=k1 (qs.map rI3) b:=by
 intro ys
 induction ys with
 | nil=>intro ps u _ _;exact Or.inr ⟨ps,u,fun h=>⟨h,fun l hl=>by cases hl⟩,rfl,rfl⟩
 | cons l ys ih=>
  intro ps u hy hn
  obtain⟨hl,hin⟩:=hy l (List.mem_cons_self ..)
  simp only [List.length_cons] at hn
  rw [List.map_cons,dU,wY,aeb,ajb hl hin]
  obtain⟨tr,e⟩:=akn (α:=α) (ds:=ds) (ls:=pick ops l) (oi:=oi) (ol:=ol) h1 h2 (k:=_)
  rw [e]
  clear e
  have hv:=akl (ls:=pick ops l) (oi:=oi) (ol:=ol) ds 2 0 (Or.inr rfl)
  generalize hq:fH (pick ops l) oi ol ds 2 0=q at *
  have ha:ln ds ops oi ol l=q.1:=by unfold ln;rw [hq]
  by_cases c:q.1=2
  ·rw [beq_iff_eq.2 c,aq]
   exact Or.inl ⟨l,List.mem_cons_self ..,ha.trans c,_,_,_,rfl⟩
  ·rw [beq_eq_false_iff_ne.2 c,ap]
   have e:ps.map rI3++[rI3 q.2]=(ps++[q.2]).map rI3:=by rw [List.map_append];rfl
   have step:∀ u',(u'=false->u=false/\q.1=0)->(∃ l' ∈ l::ys,ln ds ops oi ol l'=2/\∃ tr P b,dU α (ds.map rD) (ops.map rL) oi ol k1 k2 (ys.map vL) (ps.map rI3++[rI3 q.2]) u'=k2 (l'.map rI1) tr P b) \/
     ∃ (qs:List (Int × Int × Int)) (b:Bool),(b=false->u=false/\∀ l' ∈ l::ys,ln ds ops oi ol l'=0)/\qs.length=ps.length+(ys.length+1)/\dU α (ds.map rD) (ops.map rL) oi ol k1 k2 (ys.map vL) (ps.map rI3++[rI3 q.2]) u'=k1 (qs.map rI3) b:=by
    intro u' hu
    rw [e]
    rcases ih (ps++[q.2]) u' (fun l' hl'=>hy l' (List.mem_cons_of_mem _ hl')) (by rw [List.length_append,List.length_cons,List.length_nil];omega) with ⟨l',g1,g2,g3⟩ | ⟨qs,b,g1,g2,g3⟩
    ·exact Or.inl ⟨l',List.mem_cons_of_mem _ g1,g2,g3⟩
    ·refine Or.inr ⟨qs,b,fun hb=>?_,by rw [g2,List.length_append,List.length_cons,List.length_nil];omega,g3⟩
     obtain⟨a1,a2⟩:=g1 hb
     obtain⟨a3,a4⟩:=hu a1
     refine⟨a3,fun l' hl'=>?_⟩
     rcases List.mem_cons.1 hl' with rfl | hl'
     ·exact ha.trans a4
     ·exact a2 l' hl'
   cases u with
   | true=>
    rw [aq]
    change (∃ l' ∈ l::ys,ln ds ops oi ol l'=2/\∃ tr P b,gK (dv 3 24 (ps.map rI3) [rI3 q.2]) (dU α (ds.map rD) (ops.map rL) oi ol k1 k2 (ys.map vL) (ps.map rI3++[rI3 q.2]) true)=k2 (l'.map rI1) tr P b) \/
     ∃ (qs:List (Int × Int × Int)) (b:Bool),(b=false->true=false/\∀ l' ∈ l::ys,ln ds ops oi ol l'=0)/\qs.length=ps.length+(ys.length+1)/\gK (dv 3 24 (ps.map rI3) [rI3 q.2]) (dU α (ds.map rD) (ops.map rL) oi ol k1 k2 (ys.map vL) (ps.map rI3++[rI3 q.2]) true)=k1 (qs.map rI3) b
    rw [cJ (ap3 (by omega))]
    exact step true (fun h=>by cases h)
   | false=>
    rw [ap]
    change (∃ l' ∈ l::ys,ln ds ops oi ol l'=2/\∃ tr P b,gK (dv 3 24 (ps.map rI3) [rI3 q.2]) (dU α (ds.map rD) (ops.map rL) oi ol k1 k2 (ys.map vL) (ps.map rI3++[rI3 q.2]) (q.1 == 1))=k2 (l'.map rI1) tr P b) \/
     ∃ (qs:List (Int × Int × Int)) (b:Bool),(b=false->false=false/\∀ l' ∈ l::ys,ln ds ops oi ol l'=0)/\qs.length=ps.length+(ys.length+1)/\gK (dv 3 24 (ps.map rI3) [rI3 q.2]) (dU α (ds.map rD) (ops.map rL) oi ol k1 k2 (ys.map vL) (ps.map rI3++[rI3 q.2]) (q.1 == 1))=k1 (qs.map rI3) b
    rw [cJ (ap3 (by omega))]
    refine step (q.1 == 1) fun h=>⟨rfl,?_⟩
    have:q.1 ≠ 1:=by simpa using h
    rcases hv with h | h | h
    ·exact h
    ·exact absurd h this
    ·exact absurd h c
theorem Lg {n c:Nat}(hc:c=1\/c=2)(hn:n<=2):∀ l ∈ ig n c,l.length=n/\inL c l:=by
 intro l hl
 obtain rfl | rfl | rfl:n=0\/n=1\/n=2:=by omega
 all_goals rcases hc with rfl | rfl <;> simp [ig] at hl <;> (try rcases hl with hl | hl | hl | hl) <;> (try rcases hl with hl | hl) <;> (try subst hl) <;> refine⟨rfl,?_⟩ <;> intro x hx <;> simp at hx <;> omega
theorem aem {n c:Nat}(hc:c=1\/c=2)(hn:n<=2){l:List Int}(hl:l.length=n)(hi:inL c l):l ∈ ig n c:=by
 obtain rfl | rfl | rfl:n=0\/n=1\/n=2:=by omega
 ·obtain rfl:=List.eq_nil_of_length_eq_zero hl
  exact List.mem_cons_self ..
 ·match l,hl with
  | [a],_=>
   have:=hi a (List.mem_cons_self ..)
   rcases hc with rfl | rfl
   ·obtain rfl:a=0:=by omega
    simp [ig]
   ·obtain rfl | rfl:a=0\/a=1:=by omega
    all_goals simp [ig]
 ·match l,hl with
  | [a,b],_=>
   have h1:=hi a (List.mem_cons_self ..)
   have h2:=hi b (by simp)
   rcases hc with rfl | rfl
   ·obtain rfl:a=0:=by omega
    obtain rfl:b=0:=by omega
    simp [ig]
   ·obtain rfl | rfl:a=0\/a=1:=by omega
    all_goals obtain rfl | rfl:b=0\/b=1:=by omega
    all_goals simp [ig]
theorem aqs (l:List Int):xLS.dx [Value.tuple (l.map (Value.int .i64)).toArray]=some (vL l):=rfl
theorem ahq:∀ (L:List (List Int)),JA xLS (L.map fun l:List Int=>[Value.tuple (l.map (Value.int .i64)).toArray])=some (L.map vL)
 | []=>rfl
 | l::L=>by
  rw [List.map_cons,JA,aqs l,ahq L];rfl
theorem apH {n c:Nat}(hn:n<=2)(hc:c=1\/c=2){f:List xLS.X->Option α}:qK (q95 (n:Int) (c:Int)) xLS f=f ((ig n c).map vL):=by
 unfold q95
 rw [if_pos ⟨⟨by omega,by omega⟩,by omega⟩,Int.toNat_natCast,Int.toNat_natCast]
 show xK xLS (Ck n c) f=_
 unfold xK Ck
 rw [ahq]
 rfl
theorem YO (n c:Nat):(ig n c).length<=4:=by
 unfold ig
 split <;> simp
theorem aiH {ds:List Dm}{ops:List L5}{oi ol:Int}(h1:ds.length<=8)(h2:∀ d ∈ ds,ckD d=0)(hc:ops.length=1\/ops.length=2){M:Nat}(hM:M<=3)
  {k1:Option α} {k2:Int->Int->Int->Int->ae->ae->ae->ae->Bool->Option α} {k3:Int->Bool->ae->Option α} :
  ∀ (m i n:Nat) (ps:List (Int × Int × Int)),i+m=M->m < n->ps.length<=4*i->(∀ j,j < i->∀ l ∈ ig j ops.length,ln ds ops oi ol l=0) ->
  iA α (M:Int) (ds.map rD) (ops.map rL) oi ol k1 k2 k3 n (i:Int) (ps.map rI3)=k1\/(∃ x b P,iA α (M:Int) (ds.map rD) (ops.map rL) oi ol k1 k2 k3 n (i:Int) (ps.map rI3)=k3 x b P) \/
  ∃ (N:Nat) (l:List Int),N<=2/\l ∈ ig N ops.length/\ln ds ops oi ol l=2/\(∀ j,j < N->∀ l' ∈ ig j ops.length,ln ds ops oi ol l'=0)/\∃ a1 a2 a3 a4 tr P P2 b,iA α (M:Int) (ds.map rD) (ops.map rL) oi ol k1 k2 k3 n (i:Int) (ps.map rI3)=k2 a1 a2 a3 a4 (l.map rI1) tr P P2 b:=by
 intro m
 induction m with
 | zero=>
  intro i n ps hi hn hp _
  obtain⟨n,rfl⟩:∃ n',n=n'+1:=⟨n - 1,by omega⟩
  rw [iA]
  simp only [tG]
  rw [decide_eq_false (by omega),ap]
  exact Or.inr (Or.inl ⟨_,_,_,rfl⟩)
 | succ m ih=>
  intro i n ps hi hn hp hz
  obtain⟨n,rfl⟩:∃ n',n=n'+1:=⟨n - 1,by omega⟩
  have hi2:i<=2:=by omega
  have hw:w64 ((i:Int)+1)=((i+1:Nat):Int):=by rw [ak (by omega) (by omega)];omega
  rw [iA]
  simp only [tG]
  rw [decide_eq_true (by omega),aq,OQ,af,Tm,List.length_map,apH hi2 hc,nu,af,hw]
  have hl4:=YO i ops.length
  have ih':=fun ps hp hz=>ih (i+1) n ps (by omega) (by omega) hp hz
  generalize hR:iA α (M:Int) (ds.map rD) (ops.map rL) oi ol k1 k2 k3 n=R at *
  rcases ajH (α:=α) (oi:=oi) (ol:=ol) h1 h2 (ops:=ops) (k1:=fun x45 x46=>cK x46 k1 (gK (dv 3 24 (ps.map rI3) x45) (R ((i+1:Nat):Int) (ps.map rI3++x45))))
    (k2:=fun x47 x48 x49 x50=>k2 (i:Int) (ops.length:Int) (i:Int) (ops.length:Int) x47 x48 (ps.map rI3) x49 x50) (ig i ops.length) [] false
    (fun l hl=>by obtain⟨g1,g2⟩:=Lg hc hi2 l hl;exact⟨by omega,g2⟩) (by simp only [List.length_nil];omega) with ⟨l,g1,g2,tr,P,b,g3⟩ | ⟨qs,b,g1,g2,g3⟩
  ·exact Or.inr (Or.inr ⟨i,l,hi2,g1,g2,hz,_,_,_,_,_,_,_,_,g3⟩)
  ·simp only [List.length_nil] at g2
   have g3':dU α (ds.map rD) (ops.map rL) oi ol (fun x45 x46=>cK x46 k1 (gK (dv 3 24 (ps.map rI3) x45) (R ((i+1:Nat):Int) (ps.map rI3++x45)))) (fun x47 x48 x49 x50=>k2 (i:Int) (ops.length:Int) (i:Int) (ops.length:Int) x47 x48 (ps.map rI3) x49 x50) ((ig i ops.length).map vL) ([]:ae) false=_:=g3
   cases b with
   | true=>exact Or.inl g3'
   | false=>
    have e:_=R ((i+1:Nat):Int) ((ps++qs).map rI3):=g3'.trans (by rw [ap,cJ (lN (enc:=rI3) (fun _=>rfl) (by rw [List.length_map];omega) (by rw [List.length_map];omega)),<- List.map_append])
    rcases ih' (ps++qs) (by rw [List.length_append];omega) (fun j hj=>by
     by_cases e:j=i
     ·subst e;exact (g1 rfl).2
     ·exact hz j (by omega)) with h | ⟨x,b,P,h⟩ | ⟨N,l,q1,q2,q3,q4,a1,a2,a3,a4,tr,P,P2,b,h⟩
    ·exact Or.inl (e.trans h)
    ·exact Or.inr (Or.inl ⟨x,b,P,e.trans h⟩)
    ·exact Or.inr (Or.inr ⟨N,l,q1,q2,q3,q4,a1,a2,a3,a4,tr,P,P2,b,e.trans h⟩)
theorem ajz {d:Dm}{ops:List L5}{oi ol most:Int}(h:alF d ops oi ol most)(h2:ops.length<=2)(h3:most<=2){k1:Int->Option α}{k2:ae->ae->ae->Option α} :
  (∃ e:Int,(e=23\/e=17)/\BO α ([d].map rD) (ops.map rL) oi ol most k1 k2=k1 e) \/
  ∃ (N:Nat) (l:List Int),N<=2/\l ∈ ig N ops.length/\ln [d] ops oi ol l=2/\(∀ j,j < N->∀ l' ∈ ig j ops.length,ln [d] ops oi ol l'=0)/\∃ tr P,BO α ([d].map rD) (ops.map rL) oi ol most k1 k2=k2 (l.map rI1) tr P:=by
 have hm:=h.mst
 have hne:ops.length ≠ 0:=fun e=>h.ne (List.eq_nil_of_length_eq_zero e)
 obtain⟨M,hM⟩:∃ M:Nat,most+1=(M:Int):=⟨(most+1).toNat,by omega⟩
 rw [BO,af,Tq]
 have e1:=ain (α:=α) h (k:=fun x7=>cK (x7 != 0) (k1 x7) (sX α (w64 (most+1)) ([d].map rD) (ops.map rL) oi ol (k1 23) (fun x52 x53 x54 x55 x56 x57 x58 x59 x60=>k2 x56 x57 x58) (fun x61 x62 x63=>k1 17) 0 ([]:ae)))
 rw [e1,show ((0:Int) != 0)=false from rfl,ap,ak (by omega) (by omega),hM,sX,af,HY]
 rcases aiH (α:=α) (ds:=[d]) (ops:=ops) (oi:=oi) (ol:=ol) (by simp) (fun e he=>by rw [List.mem_singleton.1 he];exact h.cd) (by omega) (M:=M) (by omega) (k1:=k1 23) (k2:=fun x52 x53 x54 x55 x56 x57 x58 x59 x60=>k2 x56 x57 x58)
   (k3:=fun x61 x62 x63=>k1 17) M 0 aN [] (Nat.zero_add _) (by have:=cB;omega) (Nat.zero_le _) (fun j hj=>absurd hj (by omega)) with g | ⟨_,_,_,g⟩ | ⟨N,l,g1,g2,g3,g4,_,_,_,_,tr,P,P2,b,g⟩
 ·exact Or.inl ⟨23,Or.inl rfl,g⟩
 ·exact Or.inl ⟨17,Or.inr rfl,g⟩
 ·exact Or.inr ⟨N,l,g1,g2,g3,g4,tr,P,g⟩
end Go.AM.K
