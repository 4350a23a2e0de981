/- TopQuarterRule: the law holds. -/
import Derived.Test.YtaondhhdefbfkaaGreatYR3
import Derived.Test.YtaondhhdefbfkaaGreatYWj
import Derived.Test.YtaondhhdefbfkaaGreatRe
namespace Go.AM.K
open Go.AM
set_option linter.unusedVariables false
set_option linter.unusedSimpArgs false
variable {α:Type}
def lay (w n:Int):L5:=(n,n,w*2500 / n,w*2500 / n,0)
def goodN (w n:Int):Prop:=(5000<=n/\n<=80000)/\w*2500 % n=0
theorem f5_eq' {n lo hi:Int}{k:Bool->Option α}:f5_0 α n lo hi k=k (decide (lo<=n/\n<=hi)):=by
 simp only [f5_0,f5_0g]
 by_cases h:lo<=n
 ·rw [decide_eq_true h,cK_true]
  by_cases h2:n<=hi
  ·rw [decide_eq_true h2,decide_eq_true ⟨h,h2⟩]
  ·rw [decide_eq_false h2,decide_eq_false (fun q=>h2 q.2)]
 ·rw [decide_eq_false h,cK_false,decide_eq_false (fun q=>h q.1)]
theorem rowK_I1 {l:List Int}{i:Nat}{x:Int}(h:l[i]?=some x){f:Int->Option α}:rowK (l.map rI1) (i:Int) [.int .i64] f=f x:=
 (rowK_get (sh:=[.int .i64]) (f:=f) (r:=rI1 x) (by rw [List.getElem?_map,h];rfl)).trans rfl
theorem R3_go {ns:List Int}{on w:Int}(hw:1000<=w/\w<=200000)(hlen:ns.length<=6){k1:Option α}{k2:Int->Bool->Rows->Rows->Option α}{Y:Option α}(h1:k1=Y)
  (h2:∀ x b,(∀ n ∈ ns,goodN w n)->(5000<=on/\on<=80000)->k2 x b ((ns.map (lay w)).map rL) ((ns.map lowF).map rP2)=Y) :
  ∀ (m i n:Nat),i+m=ns.length->m+2 < n->(∀ x ∈ ns.take i,goodN w x) ->
  R3_0_0 α ((ns++[on]).map rI1) w k1 k2 n (i:Int) (((ns.take i).map (lay w)).map rL) (((ns.take i).map lowF).map rP2)=Y:=by
 have hll:(((ns++[on]).map rI1).length:Int)=(ns.length:Int)+1:=by simp
 have hlw:w64 ((((ns++[on]).map rI1).length:Int) - 1)=(ns.length:Int):=by rw [hll,w64_in (by omega) (by omega)];omega
 intro m
 induction m with
 | zero=>
  intro i n hi hn hg
  obtain⟨n,rfl⟩:∃ n',n=n'+2:=⟨n - 2,by omega⟩
  obtain rfl:i=ns.length:=by omega
  rw [List.take_length] at hg ⊢
  have hlast:(ns++[on])[ns.length]?=some on:=by simp
  rw [R3_0_0]
  simp only [S3_0_0,S3_0_0g]
  rw [decide_eq_true (by rw [hll];omega),cK_true]
  refine (rowK_I1 hlast).trans ?_
  rw [f5_eq',cK_nd,hlw]
  by_cases c:5000<=on/\on<=80000
  ·rw [if_pos c,decide_eq_false (by omega),cK_false,R3_0_0]
   simp only [S3_0_0,S3_0_0g]
   have hwi:w64 ((ns.length:Int)+1)=(ns.length:Int)+1:=w64_in (by omega) (by omega)
   rw [hwi,decide_eq_false (by rw [hll];omega),cK_false]
   exact h2 _ _ hg c
  ·rw [if_neg c];exact h1
 | succ m ih=>
  intro i n hi hn hg
  obtain⟨n,rfl⟩:∃ n',n=n'+1:=⟨n - 1,by omega⟩
  have hlt:i < ns.length:=by omega
  obtain⟨N,hN⟩:∃ N,ns[i]?=some N:=⟨ns[i],List.getElem?_eq_getElem hlt⟩
  have hNa:(ns++[on])[i]?=some N:=by rw [List.getElem?_append_left hlt];exact hN
  have htake:ns.take (i+1)=ns.take i++[N]:=by rw [List.take_add_one,hN];rfl
  have hwi:w64 ((i:Int)+1)=((i+1:Nat):Int):=by rw [w64_in (by omega) (by omega)];omega
  rw [R3_0_0]
  simp only [S3_0_0,S3_0_0g]
  rw [decide_eq_true (by rw [hll];omega),cK_true]
  refine (rowK_I1 hNa).trans ?_
  rw [f5_eq',cK_nd,hlw]
  by_cases c:5000<=N/\N<=80000
  ·have hne:(N != 0)=true:=bne_iff_ne.2 (by omega)
   rw [if_pos c,decide_eq_true (by omega),cK_true,gK_of hne,w64_in (n:=w*2500) (by omega) (by omega),Int.tmod_eq_emod_of_nonneg (by omega),cK_bne]
   by_cases c2:w*2500 % N=0
   ·have hd0:0<=w*2500 / N:=Int.ediv_nonneg (by omega) (by omega)
    have hd1:=Int.ediv_le_self N (show 0<=w*2500 by omega)
    have hap1:apOk 5 40 (((ns.take i).map (lay w)).map rL) [[DC.v (.int .i64 N),DC.v (.int .i64 N),DC.v (.int .i64 (w*2500 / N)),DC.v (.int .i64 (w*2500 / N)),DC.v (.int .i64 0)]]=true:=
     apOk_of (enc:=rL) (l:=[lay w N]) (fun _=>rfl) (by simp only [List.length_map,List.length_take,List.length_cons,List.length_nil];omega) (by simp only [List.length_map,List.length_take,List.length_cons,List.length_nil];omega)
    have hap2:apOk 2 16 (((ns.take i).map lowF).map rP2) [[DC.v (.int .i64 (ovr N 10000).1),DC.v (.int .i64 (ovr N 10000).2)]]=true:=
     apOk_of (enc:=rP2) (l:=[lowF N]) (fun _=>rfl) (by simp only [List.length_map,List.length_take,List.length_cons,List.length_nil];omega) (by simp only [List.length_map,List.length_take,List.length_cons,List.length_nil];omega)
    rw [if_pos c2,gK_of hne,Int.tdiv_eq_ediv_of_nonneg (by omega),w64_in (n:=w*2500 / N) (by omega) (by omega),gK_of hap1,f6_eq (by omega) (by omega) (by decide) (by decide)]
    rw [gK_of hap2,hwi]
    have g1:((ns.take i).map (lay w)).map rL++[[DC.v (.int .i64 N),DC.v (.int .i64 N),DC.v (.int .i64 (w*2500 / N)),DC.v (.int .i64 (w*2500 / N)),DC.v (.int .i64 0)]]=((ns.take (i+1)).map (lay w)).map rL:=by
     rw [htake,List.map_append,List.map_append];rfl
    have g2:((ns.take i).map lowF).map rP2++[[DC.v (.int .i64 (ovr N 10000).1),DC.v (.int .i64 (ovr N 10000).2)]]=((ns.take (i+1)).map lowF).map rP2:=by
     rw [htake,List.map_append,List.map_append];rfl
    rw [g1,g2]
    refine ih (i+1) n (by omega) (by omega) fun x hx=>?_
    rw [htake] at hx
    rcases List.mem_append.1 hx with hx | hx
    ·exact hg x hx
    ·rw [List.mem_singleton.1 hx];exact⟨c,c2⟩
   ·rw [if_neg c2];exact h1
  ·rw [if_neg c];exact h1
def askQ (fr w on:Int)(ns:List Int):Ask:=⟨fr,0,0,0,w,w,ns.map (lay w),on,0⟩
theorem askQ_q {fr w on:Int}{ns:List Int}(hw:1000<=w/\w<=200000)(hg:∀ n ∈ ns,goodN w n):∀ (i:Nat) (l:L5),(askQ fr w on ns).ls[i]?=some l->∃ d,Qtr (askQ fr w on ns) l (1+i) l.1 d w:=by
 intro i l hl
 have hl':(ns.map (lay w))[i]?=some l:=hl
 rw [List.getElem?_map] at hl'
 obtain⟨n,hn,rfl⟩:=Option.map_eq_some_iff.1 hl'
 obtain⟨⟨g1,g2⟩,g3⟩:=hg n (List.mem_of_getElem? hn)
 have e:=Int.emod_add_mul_ediv (w*2500) n
 have hd:0 < w*2500 / n:=by
  by_cases c:0 < w*2500 / n
  ·exact c
  ·exfalso
   have:=Int.mul_nonneg (show 0<=n by omega) (show 0<=-(w*2500 / n) by omega)
   rw [Int.mul_neg] at this
   omega
 refine⟨w*2500 / n,⟨⟨rfl,rfl⟩,?_,rfl,g1,g2,rfl,rfl,hw.1,hw.2,?_,hd⟩⟩
 ·rw [Nat.add_comm 1 i]
  exact medE_some (A:=askQ fr w on ns) hl
 ·show w*2500 / n*n=2500*w
  rw [Int.mul_comm (w*2500 / n) n];omega
theorem sgn_nn {x:Int}(h:0<=x):0<=sgnI x:=by unfold sgnI;split <;> (try split) <;> omega
theorem sgn_np {x:Int}(h:x<=0):sgnI x<=0:=by unfold sgnI;split <;> (try split) <;> omega
theorem tail_ok {a b:Int}(ha:0<=a/\a<=1000000000)(hb:1<=b/\b<=1000000000){lo hi:Int}(hlo:unitI lo)(hhi:unitI hi)(h1:b*lo<=a*1048576)(h2:a*1048576<=b*hi){k:Bool->Option α} :
  f5_0 α a 0 1000000000 (fun x62=>cK (!x62) (k false) (f5_0 α b 1 1000000000 (fun x63=>cK (!x63) (k false) (f10_0 α (w64 (a*1048576)) b (fun x64=>f5_0 α x64 (w64 (lo - 1)) hi
   (fun x65=>cK x65 (f11_0 α a b lo 1048576 (fun x66=>cK (decide (0<=x66)) (f11_0 α a b hi 1048576 (fun x67=>k (decide (x67<=0)))) (k false))) (k false)))))))=k true:=by
 unfold unitI at hlo hhi
 rw [f5_eq',cK_nd,if_pos ha,f5_eq',cK_nd,if_pos hb,w64_in (n:=a*1048576) (by omega) (by omega),f10_eq (by omega) (by omega) (by omega) (by omega),f5_eq',w64_in (n:=lo - 1) (by omega) (by omega)]
 have q1:lo<=a*1048576 / b:=by
  rw [Int.le_ediv_iff_mul_le (by omega),Int.mul_comm];exact h1
 have q2:a*1048576 / b<=hi:=by
  have:a*1048576 / b < hi+1:=by
   rw [Int.ediv_lt_iff_lt_mul (by omega),Int.add_mul,Int.one_mul,Int.mul_comm hi b];omega
  omega
 rw [cK_dec,if_pos (by omega),f11_eq' (by omega) (by decide) ha.1 hlo.1 (by omega) (by omega) (by omega) (by decide),cK_dec,if_pos (sgn_nn (by rw [Int.mul_comm lo b];omega)),
  f11_eq' (by omega) (by decide) ha.1 hhi.1 (by omega) (by omega) (by omega) (by decide),decide_eq_true (sgn_np (by rw [Int.mul_comm hi b];omega))]
theorem between_ok {a b p1 p2 ya yb fr Yn Yd lo hi:Int}(hb:0 < b)(p0:0 < p2)(y0:0 < yb)(hYd:0 < Yd)(pe:p1*10000=fr*p2)(hy:ya*Yd=Yn*yb)(hD:0 < fr*Yd+10000*Yn)
  (hab:a*((p1*yb+ya*p2)*(p1*yb+ya*p2))=(p1*yb - ya*p2)*(p1*yb - ya*p2)*b)
  (s1:(fr*Yd+10000*Yn)*(fr*Yd+10000*Yn)*lo<=(fr*Yd - 10000*Yn)*(fr*Yd - 10000*Yn)*1048576) (s2:(fr*Yd - 10000*Yn)*(fr*Yd - 10000*Yn)*1048576<=(fr*Yd+10000*Yn)*(fr*Yd+10000*Yn)*hi) :
  b*lo<=a*1048576/\a*1048576<=b*hi:=by
 have k1:(p1*yb+ya*p2)*(10000*Yd)=p2*yb*(fr*Yd+10000*Yn):=by
  have:(p1*yb+ya*p2)*(10000*Yd)=p1*10000*(yb*Yd)+ya*Yd*(10000*p2):=by grind
  rw [this,pe,hy];grind
 have k2:(p1*yb - ya*p2)*(10000*Yd)=p2*yb*(fr*Yd - 10000*Yn):=by
  have:(p1*yb - ya*p2)*(10000*Yd)=p1*10000*(yb*Yd) - ya*Yd*(10000*p2):=by grind
  rw [this,pe,hy];grind
 generalize p1*yb+ya*p2=D1 at *
 generalize p1*yb - ya*p2=P1 at *
 generalize fr*Yd+10000*Yn=D at *
 generalize fr*Yd - 10000*Yn=P at *
 have hc:0 < p2*yb:=Int.mul_pos p0 y0
 generalize p2*yb=c at *
 generalize 10000*Yd=t at *
 have key:a*(D*D)=P*P*b:=by
  refine Int.eq_of_mul_eq_mul_right (show c*c ≠ 0 by have:=Int.mul_pos hc hc;omega) ?_
  have e1:a*(D*D)*(c*c)=a*((c*D)*(c*D)):=by grind
  have e2:P*P*b*(c*c)=(c*P)*(c*P)*b:=by grind
  rw [e1,e2,<- k1,<- k2]
  have e3:a*(D1*t*(D1*t))=a*(D1*D1)*(t*t):=by grind
  rw [e3,hab];grind
 have hDD:0 < D*D:=Int.mul_pos hD hD
 constructor
 ·refine Int.le_of_mul_le_mul_left ?_ hDD
  have i1:=Int.mul_le_mul_of_nonneg_left s1 (Int.le_of_lt hb)
  have e1:D*D*(b*lo)=b*(D*D*lo):=by grind
  have e2:D*D*(a*1048576)=P*P*b*1048576:=by rw [<- key];grind
  have e3:b*(P*P*1048576)=P*P*b*1048576:=by grind
  omega
 ·refine Int.le_of_mul_le_mul_left ?_ hDD
  have i1:=Int.mul_le_mul_of_nonneg_left s2 (Int.le_of_lt hb)
  have e1:D*D*(b*hi)=b*(D*D*hi):=by grind
  have e2:D*D*(a*1048576)=P*P*b*1048576:=by rw [<- key];grind
  have e3:b*(P*P*1048576)=P*P*b*1048576:=by grind
  omega
theorem law3 {fr w:Int}{l:List Int}{k:Bool->Option α}:f3_0 α fr (l.map rI1) w k=k true:=by
 simp only [f3_0,f3_0g,f4_0,List.length_map]
 rw [cK_dec,cK_dec]
 by_cases c1:(l.length:Int) < 1
 ·rw [if_pos c1]
 ·rw [if_neg c1]
  by_cases c2:7 < (l.length:Int)
  ·rw [if_pos c2]
  ·rw [if_neg c2,f5_eq',cK_nd]
   by_cases c3:5000<=fr/\fr<=20000
   ·rw [if_pos c3,f5_eq',cK_nd]
    by_cases c4:1000<=w/\w<=200000
    ·rw [if_pos c4]
     -- the last index apart
     obtain⟨ns,on,rfl⟩:∃ ns on,l=ns++[on]:=by
      have hne:l ≠ []:=by intro h;rw [h] at c1;simp at c1
      exact⟨l.dropLast,l.getLast hne,(List.dropLast_concat_getLast hne).symm⟩
     have hlen:ns.length<=6:=by rw [List.length_append,List.length_singleton] at c2;omega
     have hlast:(ns++[on])[ns.length]?=some on:=by simp
     have hix:w64 (((ns++[on]).length:Int) - 1)=(ns.length:Int):=by
      rw [List.length_append,List.length_singleton,w64_in (by omega) (by omega)];omega
     rw [hix]
     refine (rowK_I1 hlast).trans ?_
     rw [L3_0_0]
     have hf:ns.length+2 < fuel:=by have:=fuel_ge;omega
     refine R3_go (ns:=ns) (on:=on) (w:=w) c4 hlen (Y:=k true) rfl (fun x b hg hon=>?_) ns.length 0 fuel (by omega) hf (fun x hx=>by cases hx)
     show f6_0 α on 10000 _=_
     rw [f6_eq (by omega) (by omega) (by decide) (by decide)]
     have hpos:∀ n ∈ ns,0 < n/\n<=80000:=fun n hn=>by have:=(hg n hn).1;omega
     refine f7_ind (ns:=ns) (on:=on) ⟨by omega,hon.2⟩ (by omega) hpos fun ya yb e he h0=>?_
     by_cases ce:e=0
     ·subst ce
      obtain⟨hy,hy1,hyv⟩:=h0 rfl
      rw [show ((0:Int) != 0)=false from rfl,cK_false,f6_eq (by omega) (by omega) (by decide) (by decide)]
      have hp:=lowF_ok (n:=fr) (by omega)
      refine f8_ind (p:=lowF fr) (y:=(ya,yb)) hp.1 (by have:=hp.2.2;omega) (by
       have:=(ovr_ok (n:=fr) (d:=10000) (by decide)).2.2.2.1
       unfold lowF;exact this) hy hy1 fun a b f hfe hf0=>?_
      refine (f9_bn (askQ fr w on ns)).trans ?_
      unfold KS
      by_cases cf:f=0
      ·subst cf
       obtain⟨ha,hb,hab⟩:=hf0 rfl
       simp only [J3_0_1,J3_0_1g]
       rw [show ((0:Int) != 0)=false from rfl,cK_false]
       by_cases cg:(sharesE (askQ fr w on ns)).2=0
       ·rw [cg,show ((0:Int) != 0)=false from rfl,cK_false]
        have hu:=shares_u (askQ fr w on ns)
        obtain⟨hD,s1,s2,_⟩:=shares_refl (A:=askQ fr w on ns) (on:=on) rfl ⟨rfl,rfl⟩ (by show 5000<=fr/\fr<=80000;omega) hon rfl rfl (askQ_q c4 hg) cg rfl rfl
        have hm:((askQ fr w on ns).ls.map fun l=>l.1)=ns:=by
         show (ns.map (lay w)).map (fun l=>l.1)=ns
         rw [List.map_map]
         exact List.map_id' ns
        rw [hm] at hD s1 s2
        have hyb:=hy.b
        have hyd:0 < (yv ns on).2:=(yv_pos (by omega) ns (fun n hn=>(hpos n hn).1)).2
        obtain⟨g1,g2⟩:=between_ok (show 0 < b by omega) hp.1.b hyb hyd hp.2.1 hyv hD hab s1 s2
        exact tail_ok ha hb hu.1 hu.2.1 g1 g2
       ·rw [bne_iff_ne.2 cg,cK_true]
        rfl
      ·have hfb:(f != 0)=true:=bne_iff_ne.2 cf
       simp only [J3_0_1,J3_0_1g]
       rw [hfb,cK_true,cK_true,cK_true]
       rcases hfe cf with rfl | rfl <;> rfl
     ·have heb:(e != 0)=true:=bne_iff_ne.2 ce
      rw [heb,cK_true]
      rcases he ce with rfl | rfl <;> rfl
    ·rw [if_neg c4]
   ·rw [if_neg c3]
end Go.AM.K
