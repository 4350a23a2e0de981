/- TopQuarterRule: for every input the statement is true, and the input reads as it did. No condition. -/
import Derived.Test.YtaondhhdefbfkaaGreatRows
import Derived.Test.YtaondhhdefbfkaaGreatYR4
import Derived.Test.YtaondhhdefbfkaaGreatKF1
namespace Go.Proofs.YtaondhhdefbfkaaGreat.Gt3
open Go.ChangeShapes Go.WideShapes Go.ChangeAt Go.RowKit Go.AM
set_option linter.unusedVariables false
theorem own:ownKnob Tryz.prog.godebug=none:=by kernel_rfl
theorem laidOut:laidOutB Tryz.prog=true:=by kernel_rfl
theorem ts3:tsOf Tryz.prog 8 3=some [.int .i64]:=by kernel_rfl
theorem ag3:isAggT Tryz.prog 3=false:=by kernel_rfl
theorem ts22:tsOf Tryz.prog 8 22=some [.sl [.int .i64]]:=by kernel_rfl
theorem ag22:isAggT Tryz.prog 22=false:=by kernel_rfl
theorem of1 (r:List DC)(h:TSoks [.int .i64] r):∃ a:Int,r=rI1 a:=by
 obtain⟨_,_,rfl,⟨_⟩,h1⟩:=h.cons
 obtain rfl:=h1.nil
 exact⟨_,rfl⟩
theorem dec {d0 d1 d2:List DC}(s0:TSoks [.int .i64] d0)(s1:TSoks [.sl [.int .i64]] d1)(s2:TSoks [.int .i64] d2) :
  K.pa3_0.dec [(false,d0),(false,d1),(false,d2)] (K.Fn3_0 K.f3_0 _ some)=some (some [rB true]):=by
 obtain⟨_,_,rfl,⟨_⟩,u0⟩:=s0.cons
 obtain rfl:=u0.nil
 obtain⟨_,_,rfl,t1,u1⟩:=s1.cons
 obtain rfl:=u1.nil
 obtain⟨_,_,rfl,⟨_⟩,u2⟩:=s2.cons
 obtain rfl:=u2.nil
 obtain⟨r0,rfl,_,q0⟩:=t1.rows
 obtain⟨l0,rfl⟩:=rows_of of1 r0 q0
 show some (K.f3_0 _ _ _ _ _)=_
 rw [K.law3];rfl
set_option maxRecDepth 100000 in
theorem walk (v0 v1 v2:Value)(w:World)(a0:Arg Tryz.prog w 3 [.int .i64] v0)(a1:Arg Tryz.prog w 22 [.sl [.int .i64]] v1)(a2:Arg Tryz.prog w 3 [.int .i64] v2) :
  Calls Tryz.prog 3 #[v0,v1,v2] w fun e w'=>e=.returned (.bool true)/\Below w.heap.size w w':=by
 obtain⟨d0,s0,r0⟩:=a0
 obtain⟨d1,s1,r1⟩:=a1
 obtain⟨d2,s2,r2⟩:=a2
 have hd:=dec s0 s1 s2
 rw [ag3] at r0
 rw [ag22] at r1
 rw [ag3] at r2
 refine law_calls (ds:=[(false,d0),(false,d1),(false,d2)]) K.io3_0 (show 3<=K.nt3 by decide) hd ?_
 refine⟨rfl,fun i d v hd hv=>?_⟩
 match i with
 | 0=>simp at hd hv;subst hd;subst hv;exact r0
 | 1=>simp at hd hv;subst hd;subst hv;exact r1
 | 2=>simp at hd hv;subst hd;subst hv;exact r2
 | i+3=>simp at hd
set_option maxRecDepth 100000 in
theorem lifted (os:Os)(started:os.Started)(H:Type)(enc:TypeId × Value->H) :
  ReturnsInHanded {} Tryz.checked os 3 .any (Rows.topQuarterRuleSpec.pre6 enc Tryz.prog Tryz.f3 Rows.topQuarterRuleRow.domain false) (Rows.topQuarterRuleSpec.post enc Tryz.prog Tryz.f3 false true false false):=by
 refine returnsInHanded_of_change (C:=Tryz.checked) own started (by kernel_rfl) Tryz.func3
  (ChangeSpec.witness6 (enc:=enc) (C:=Tryz.checked) false ⟨#[],#[.int .i64 0,.slice none 0 0,.int .i64 0],[]⟩ 8 (by kernel_rfl) (by kernel_rfl) (by kernel_rfl) (by kernel_rfl)) ?_
 intro W base args ds gs before hval0 hW hcnd _
 have hval:∀ (j:Nat) t v,Tryz.f3.params[j]?=some t->args[j]?=some v->Value.okWide Tryz.prog W .any base t v:=hval0
 have hW':=hW
 obtain⟨p,q,hA0,hV,rfl,hfz,hnd⟩:=hW
 have hA:DataW.TrodAll enc Tryz.prog W 0 (fun _=>true) true Tryz.f3.params.toList args.toList ds p:=hA0
 rw [Tryz.params3] at hA hval
 obtain⟨v0,vs0,d0,ds0,p0,q0,hargs,rfl,rfl,h0,r0⟩:=trodAll_cons hA
 obtain⟨v1,vs1,d1,ds1,p1,q1,rfl,rfl,rfl,h1,r1⟩:=trodAll_cons r0
 obtain⟨v2,vs2,d2,ds2,p2,q2,rfl,rfl,rfl,h2,r2⟩:=trodAll_cons r1
 obtain⟨rfl,rfl,rfl⟩:=trodAll_nil r2
 obtain rfl:args=#[v0,v1,v2]:=by cases args;simp_all
 obtain⟨rfl,rfl⟩:=trodVars_none hV
 have lt0:∀ x ∈ p0,x.block < W.heap.size:=by obtain⟨m,hm⟩:=h0;exact DataW.trod_lt m _ _ _ hm
 have lt1:∀ x ∈ p1,x.block < W.heap.size:=by obtain⟨m,hm⟩:=h1;exact DataW.trod_lt m _ _ _ hm
 have lt2:∀ x ∈ p2,x.block < W.heap.size:=by obtain⟨m,hm⟩:=h2;exact DataW.trod_lt m _ _ _ hm
 have k0:=arg_ok (hval 0 3 v0 rfl rfl) h0 ts3
 have k1:=arg_ok (hval 1 22 v1 rfl rfl) h1 ts22
 have k2:=arg_ok (hval 2 3 v2 rfl rfl) h2 ts3
 clear hA0 hval0
 refine (walk v0 v1 v2 W k0 k1 k2).mono fun e W' ⟨he,bel⟩=>?_
 subst he
 exact⟨_,rfl,_,_,_,[],_,[],hW',trodAll_mk1 (shut_bool Tryz.underlying4 _),(trodAll_cons_mk (Below.trod laidOut (by kernel_rfl) (of_decide_eq_true (by kernel_rfl)) h0 bel lt0) (trodAll_cons_mk (Below.trod laidOut (by kernel_rfl) (of_decide_eq_true (by kernel_rfl)) h1 bel lt1) (trodAll_cons_mk (Below.trod laidOut (by kernel_rfl) (of_decide_eq_true (by kernel_rfl)) h2 bel lt2) trodAll_mk0))),rfl,bel.frame _,fun h=>by cases h⟩
theorem over:Rows.topQuarterRuleRow.holds Tryz.pinned (OpenSpec.ofChange Rows.topQuarterRuleSpec):=
 OpenClaim.holds_of_wide 3 Tryz.f3 rfl rfl rfl rfl rfl rfl rfl ⟨rfl,rfl,rfl,rfl,rfl⟩ rfl rfl rfl rfl rfl (by kernel_rfl) Tryz.func3 (by kernel_rfl)
  (of_decide_eq_true (by kernel_rfl)) (by unfold Func.isWrapper;first | (rw [if_pos (by decide +kernel)];kernel_rfl) | (rw [if_neg (by decide +kernel)];exact⟨rfl,rfl⟩))
  (fun os started H enc _=>lifted os started H enc)
theorem topQuarterRule_holds:Rows.TopQuarterRuleSaid:=over
#print axioms topQuarterRule_holds
end Go.Proofs.YtaondhhdefbfkaaGreat.Gt3
