/- TopDemandsOfAsks: the law holds. -/
import Derived.Test.YtamjfkiklngagaaGreatRWl
import Derived.Test.YtamjfkiklngagaaGreatRe
namespace Go.AM.K
set_option linter.unusedVariables false
set_option linter.unusedSimpArgs false
variable {α:Type}
theorem copy_L {ls:List L5}(h:ls.length<=42){k:Rows->Option α}:f25_0 α (ls.map rL) k=k (ls.map rL):=by
 rw [f25_0,f25_0g,gK_of (apOk_of (enc:=rL) (fun _=>rfl) (by simp only [List.length_nil];omega) (by simp only [List.length_nil];omega)),List.nil_append]
theorem copy_T {ds:List Dm}{ls:List L5}(hd:ds.length<=10)(h:ls.length<=42){k:Rows->Rows->Option α}:f7_0 α (ds.map rD) (ls.map rL) k=k (ds.map rD) (ls.map rL):=by
 rw [f7_0,f7_0g,gK_of (apOk_of (enc:=rD) (fun _=>rfl) (by simp only [List.length_nil];omega) (by simp only [List.length_nil];omega)),copy_L h,List.nil_append]
theorem copy_A {ls:List L5}(h:ls.length<=42){k:Rows->Option α}:f9_0 α (ls.map rL) k=k (ls.map rL):=by
 rw [f9_0,f9_0g,copy_L h]
theorem few_eq {ds:List Dm}{ls:List L5}{k:Bool->Option α}:∃ b:Bool,(b=true->ds.length<=10/\ls.length<=42)/\f5_0 α (ds.map rD) (ls.map rL) k=k b:=by
 rw [f5_0,f5_0g,List.length_map,List.length_map]
 by_cases c1:(ds.length:Int)<=2
 ·rw [decide_eq_true c1,cK_true]
  by_cases c2:(ls.length:Int)<=3
  ·rw [decide_eq_true c2,cK_true]
   exact⟨true,fun _=>by omega,rfl⟩
  ·rw [decide_eq_false c2,cK_false]
   by_cases c3:40 < (ls.length:Int)
   ·rw [decide_eq_true c3,cK_true]
    exact⟨_,fun h=>by have:=of_decide_eq_true h;omega,rfl⟩
   ·rw [decide_eq_false c3,cK_false]
    exact⟨false,fun h=>(by cases h),rfl⟩
 ·rw [decide_eq_false c1,cK_false]
  by_cases c4:8 < (ds.length:Int)
  ·rw [decide_eq_true c4,cK_true]
   by_cases c5:(ds.length:Int)<=10
   ·rw [decide_eq_true c5,cK_true]
    by_cases c2:(ls.length:Int)<=3
    ·rw [decide_eq_true c2,cK_true]
     exact⟨true,fun _=>by omega,rfl⟩
    ·rw [decide_eq_false c2,cK_false]
     by_cases c3:40 < (ls.length:Int)
     ·rw [decide_eq_true c3,cK_true]
      exact⟨_,fun h=>by have:=of_decide_eq_true h;omega,rfl⟩
     ·rw [decide_eq_false c3,cK_false]
      exact⟨false,fun h=>(by cases h),rfl⟩
   ·rw [decide_eq_false c5,cK_false]
    exact⟨false,fun h=>(by cases h),rfl⟩
  ·rw [decide_eq_false c4,cK_false]
   exact⟨false,fun h=>(by cases h),rfl⟩
theorem over_0 {d:Dm}{ds:List Dm}{ls:List L5}{oi ol:Int}(h:(overE d ds ls oi ol).2 ≠ 0):(overE d ds ls oi ol).1=(0,0):=by
 unfold overE at *
 by_cases c:tskE d ds ls oi ol=0
 ·rw [if_pos c] at *
  unfold dshE at *
  by_cases c2:(sharesE (askD d ls oi ol)).2=0
  ·rw [if_pos c2] at h;exact absurd rfl h
  ·rw [if_neg c2]
 ·rw [if_neg c]
theorem sel_u {s:Int}{q:Q6}(h:Unit6 q):unitI (selE s q).1/\unitI (selE s q).2:=by
 obtain⟨h1,h2,h3,h4,h5,h6⟩:=h
 unfold selE
 by_cases c2:s=2
 ·rw [if_pos c2];exact⟨h5,h6⟩
 ·rw [if_neg c2]
  by_cases c1:s=1
  ·rw [if_pos c1];exact⟨h3,h4⟩
  ·rw [if_neg c1];exact⟨h1,h2⟩
theorem sel_o {s:Int}{q:Q6}(h:Ord6 q):(selE s q).1<=(selE s q).2:=by
 obtain⟨h1,h2,h3⟩:=h
 unfold selE
 by_cases c2:s=2
 ·rw [if_pos c2];exact h3
 ·rw [if_neg c2]
  by_cases c1:s=1
  ·rw [if_pos c1];exact h2
  ·rw [if_neg c1];exact h1
theorem f10_eq {s:Int}{q:Q6}{k:Int->Int->Option α}:f10_0 α q.1 q.2.1 q.2.2.1 q.2.2.2.1 q.2.2.2.2.1 q.2.2.2.2.2 s k=if s=0 then k q.1 q.2.1 else if s=1 then k q.2.2.1 q.2.2.2.1 else k q.2.2.2.2.1 q.2.2.2.2.2:=by
 rw [f10_0,f10_0g,cK_beq]
 by_cases c:s=0
 ·rw [if_pos c,if_pos c]
 ·rw [if_neg c,if_neg c]
  by_cases c1:s=1
  ·rw [if_pos c1,beq_iff_eq.2 c1,cK_true]
  ·rw [if_neg c1,beq_eq_false_iff_ne.2 c1,cK_false]
theorem f10_sel {s:Int}(hs:0<=s/\s<=2){q:Q6}{k:Int->Int->Option α}:f10_0 α q.1 q.2.1 q.2.2.1 q.2.2.2.1 q.2.2.2.2.1 q.2.2.2.2.2 s k=k (selE s q).1 (selE s q).2:=by
 rw [f10_eq]
 unfold selE
 by_cases c:s=0
 ·rw [if_pos c,if_neg (by omega),if_neg (by omega)]
 ·rw [if_neg c]
  by_cases c1:s=1
  ·rw [if_pos c1,if_neg (by omega),if_pos c1]
  ·rw [if_neg c1,if_pos (by omega)]
theorem few_ind {ds:List Dm}{ls:List L5}{k:Bool->Option α}{Y:Option α}(h:∀ b:Bool,(b=true->ds.length<=10/\ls.length<=42)->k b=Y):f5_0 α (ds.map rD) (ls.map rL) k=Y:=by
 obtain⟨b,hb,e⟩:=few_eq (ds:=ds) (ls:=ls) (k:=k)
 rw [e,h b hb]
theorem over_ok {d:Dm}{ds:List Dm}{ls:List L5}{oi ol:Int}(h:(overE d ds ls oi ol).2=0):tskE d ds ls oi ol=0/\(sharesE (askD d ls oi ol)).2=0/\(overE d ds ls oi ol).1=selE d.sh (sharesE (askD d ls oi ol)).1:=by
 unfold overE at *
 by_cases c:tskE d ds ls oi ol=0
 ·rw [if_pos c] at *
  unfold dshE at *
  by_cases c2:(sharesE (askD d ls oi ol)).2=0
  ·rw [if_pos c2];exact⟨c,c2,rfl⟩
  ·rw [if_neg c2] at h;exact absurd h c2
 ·rw [if_neg c] at h;exact absurd h c
def endD (d:Dm)(a b:Int):Dm:=⟨d.sh,d.pol,d.ix,d.s1,d.s2,d.w1,d.w2,a*10000 / 1048576,cdv (b*10000) 1048576⟩
theorem endD_ok {d:Dm}{ls:List L5}{oi ol:Int}(hd:ckD d=0)(ha:ckA (askD d ls oi ol)=0)(hs:(sharesE (askD d ls oi ol)).2=0){a b:Int}(hab:(a,b)=selE d.sh (sharesE (askD d ls oi ol)).1)
  (h1:unitI a) (h2:unitI b) (h3:a<=b):tskE (endD d a b) [] ls oi ol=0/\ansE (endD d a b) ls oi ol=2:=by
 have e1:a*10000 / 1048576*1048576<=a*10000:=Int.ediv_mul_le _ (by decide)
 have e2:b*10000<=cdv (b*10000) 1048576*1048576:=(cdv_le_iff (by decide)).1 (Int.le_refl _)
 have e3:0<=a*10000 / 1048576:=by unfold unitI at h1;omega
 have e4:cdv (b*10000) 1048576<=10000:=by unfold unitI at h2;unfold cdv;omega
 have e5:a*10000 / 1048576<=cdv (b*10000) 1048576:=by unfold cdv;omega
 have hc:ckD (endD d a b)=0:=ckD_iff hd ⟨rfl,rfl,rfl,rfl,rfl,rfl,rfl⟩ e3 e5 e4
 constructor
 ·unfold tskE dms
  rw [if_neg (show ¬ ([endD d a b].length=0) by simp only [List.length_cons,List.length_nil];decide),if_neg (show ¬ 8 < [endD d a b].length by simp only [List.length_cons,List.length_nil];decide)]
  have:dsE [endD d a b]=0:=by
   show (if ckD (endD d a b)=0 then dsE [] else ckD (endD d a b))=0
   rw [if_pos hc];rfl
  rw [if_pos this]
  exact ha
 ·have hd':dshE (endD d a b) ls oi ol=((a,b),0):=by
   show (if (sharesE (askD d ls oi ol)).2=0 then (selE d.sh (sharesE (askD d ls oi ol)).1,(0:Int)) else ((0,0),(sharesE (askD d ls oi ol)).2))=_
   rw [if_pos hs,<- hab]
  unfold ansE
  rw [hd']
  show (if (0:Int)=0 then if w64 (a*10000 / 1048576*1048576)<=w64 (a*10000)/\w64 (b*10000)<=w64 (cdv (b*10000) 1048576*1048576) then (2:Int) else _ else _)=2
  unfold unitI at h1 h2
  generalize a*10000 / 1048576=x at *
  generalize cdv (b*10000) 1048576=y at *
  rw [w64_in (n:=x*1048576) (by omega) (by omega),w64_in (n:=a*10000) (by omega) (by omega),w64_in (n:=b*10000) (by omega) (by omega),w64_in (n:=y*1048576) (by omega) (by omega),if_pos rfl,if_pos ⟨e1,e2⟩]
theorem law3 {ds:List Dm}{ls:List L5}{oi ol:Int}{k:Bool->Option α}:f3_0 α (ds.map rD) (ls.map rL) oi ol k=k true:=by
 rw [f3_0,f3_0g,f4_0]
 refine few_ind fun b hb=>?_
 cases b with
 | false=>rfl
 | true=>
  obtain⟨hn,hm⟩:=hb rfl
  rw [Bool.not_true,cK_false,List.length_map,cK_beq]
  cases ds with
  | nil=>rw [if_pos (show ((List.length ([]:List Dm):Nat):Int)=0 from rfl)]
  | cons d ds=>
   have hl:ds.length < 100:=by simp only [List.length_cons] at hn;omega
   rw [if_neg (by simp only [List.length_cons];omega),copy_T hn hm,f6_eq hl,cK_bne]
   by_cases c:(overE d ds ls oi ol).2=0
   ·rw [if_pos c]
    obtain⟨ht,hs,ho⟩:=over_ok c
    obtain⟨hd,ha⟩:=tskE_ok ht
    have hk:=(ckD_ok hd).1.1
    have su:=sel_u (s:=d.sh) (shares_u (askD d ls oi ol))
    have so:=sel_o (s:=d.sh) (shares_o (askD d ls oi ol))
    refine (row_D (i:=0) (d:=d) rfl).trans ?_
    rw [copy_A hm]
    refine (f8_bn (askD d ls oi ol)).trans ?_
    have hab:((overE d ds ls oi ol).1.1,(overE d ds ls oi ol).1.2)=selE d.sh (sharesE (askD d ls oi ol)).1:=ho
    have h1:unitI (overE d ds ls oi ol).1.1:=by rw [ho];exact su.1
    have h2:unitI (overE d ds ls oi ol).1.2:=by rw [ho];exact su.2
    have h3:(overE d ds ls oi ol).1.1<=(overE d ds ls oi ol).1.2:=by rw [ho];exact so
    obtain⟨t1,t2⟩:=endD_ok hd ha hs hab h1 h2 h3
    clear ho su so
    generalize (overE d ds ls oi ol).1.1=a at *
    generalize (overE d ds ls oi ol).1.2=z at *
    unfold KS
    show cK ((sharesE (askD d ls oi ol)).2 != 0) _ _=_
    rw [hs,show ((0:Int) != 0)=false from rfl,cK_false,f10_sel hk,<- hab]
    show cK (!((a == a) && ((z == z) && true))) _ _=_
    rw [beq_self_eq_true,beq_self_eq_true,show (!(true && (true && true)))=false from rfl,cK_false]
    unfold unitI at h1 h2
    rw [f11_eq,inB_iff.2 h1,Bool.not_true,cK_false,f11_eq,inB_iff.2 h2,Bool.not_true,cK_false,copy_T hn hm,w64_in (n:=a*10000) (by omega) (by omega),w64_in (n:=z*10000) (by omega) (by omega),
     f12_eq (by decide) (by decide) (by omega) (by omega),f13_eq (by decide) (by decide) (by omega) (by omega)]
    refine (f14_eq (d:=endD d a z) hk t1 t2).trans ?_
    rfl
   ·rw [if_neg c]
    have:=over_0 c
    rw [this]
    rfl
end Go.AM.K
