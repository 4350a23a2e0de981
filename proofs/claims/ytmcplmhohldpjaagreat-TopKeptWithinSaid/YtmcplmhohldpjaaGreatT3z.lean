/- TopKeptWithin: for every input the statement is true, and the input reads as it did. No condition. -/
import Derived.Test.YtmcplmhohldpjaaGreatRows
import Derived.Test.YtmcplmhohldpjaaGreatT3y
import Derived.Test.YtmcplmhohldpjaaGreatKF1
namespace Go.Proofs.YtmcplmhohldpjaaGreat.Gt3
open Go.ChangeShapes Go.WideShapes Go.ChangeAt Go.RowKit Go.AM
set_option linter.unusedVariables false
theorem own:ownKnob Tryz.prog.godebug=none:=by kernel_rfl
theorem laidOut:laidOutB Tryz.prog=true:=by kernel_rfl
theorem ts27:tsOf Tryz.prog 8 27=some [.sl [.int .i64,.int .i64,.int .i64,.int .i64,.int .i64,.int .i64,.int .i64,.int .i64,.int .i64],.sl [.int .i64,.int .i64,.int .i64,.int .i64,.int .i64],.int .i64,.int .i64]:=by kernel_rfl
theorem ag27:isAggT Tryz.prog 27=true:=by kernel_rfl
theorem ts28:tsOf Tryz.prog 8 28=some [.int .i64,.int .i64,.int .i64,.int .i64]:=by kernel_rfl
theorem ag28:isAggT Tryz.prog 28=true:=by kernel_rfl
theorem of9 (r:List DC)(h:TSoks [.int .i64,.int .i64,.int .i64,.int .i64,.int .i64,.int .i64,.int .i64,.int .i64,.int .i64] r):∃ a:K.Dm,r=K.rD a:=by
 obtain⟨_,_,rfl,⟨_⟩,h1⟩:=h.cons
 obtain⟨_,_,rfl,⟨_⟩,h2⟩:=h1.cons
 obtain⟨_,_,rfl,⟨_⟩,h3⟩:=h2.cons
 obtain⟨_,_,rfl,⟨_⟩,h4⟩:=h3.cons
 obtain⟨_,_,rfl,⟨_⟩,h5⟩:=h4.cons
 obtain⟨_,_,rfl,⟨_⟩,h6⟩:=h5.cons
 obtain⟨_,_,rfl,⟨_⟩,h7⟩:=h6.cons
 obtain⟨_,_,rfl,⟨_⟩,h8⟩:=h7.cons
 obtain⟨_,_,rfl,⟨_⟩,h9⟩:=h8.cons
 obtain rfl:=h9.nil
 exact⟨⟨_,_,_,_,_,_,_,_,_⟩,rfl⟩
theorem of5 (r:List DC)(h:TSoks [.int .i64,.int .i64,.int .i64,.int .i64,.int .i64] r):∃ a:K.L5,r=K.rL a:=by
 obtain⟨_,_,rfl,⟨_⟩,h1⟩:=h.cons
 obtain⟨_,_,rfl,⟨_⟩,h2⟩:=h1.cons
 obtain⟨_,_,rfl,⟨_⟩,h3⟩:=h2.cons
 obtain⟨_,_,rfl,⟨_⟩,h4⟩:=h3.cons
 obtain⟨_,_,rfl,⟨_⟩,h5⟩:=h4.cons
 obtain rfl:=h5.nil
 exact⟨(_,_,_,_,_),rfl⟩
theorem dec {d0 d1:List DC}(s0:TSoks [.sl [.int .i64,.int .i64,.int .i64,.int .i64,.int .i64,.int .i64,.int .i64,.int .i64,.int .i64],.sl [.int .i64,.int .i64,.int .i64,.int .i64,.int .i64],.int .i64,.int .i64] d0)(s1:TSoks [.int .i64,.int .i64,.int .i64,.int .i64] d1) :
  K.pa3_0.dec [(true,d0),(true,d1)] (K.Fn3_0 K.f3_0 _ some)=some (some [rB true]):=by
 obtain⟨_,_,rfl,t0,u1⟩:=s0.cons
 obtain⟨_,_,rfl,t1,u2⟩:=u1.cons
 obtain⟨_,_,rfl,⟨_⟩,u3⟩:=u2.cons
 obtain⟨_,_,rfl,⟨_⟩,u4⟩:=u3.cons
 obtain rfl:=u4.nil
 obtain⟨_,_,rfl,⟨_⟩,v1⟩:=s1.cons
 obtain⟨_,_,rfl,⟨_⟩,v2⟩:=v1.cons
 obtain⟨_,_,rfl,⟨_⟩,v3⟩:=v2.cons
 obtain⟨_,_,rfl,⟨_⟩,v4⟩:=v3.cons
 obtain rfl:=v4.nil
 obtain⟨r0,rfl,_,q0⟩:=t0.rows
 obtain⟨r1,rfl,_,q1⟩:=t1.rows
 obtain⟨l0,rfl⟩:=rows_of of9 r0 q0
 obtain⟨l1,rfl⟩:=rows_of of5 r1 q1
 show some (K.f3_0 _ _ _ _ _ _ _ _ _ _)=_
 rw [K.law3];rfl
set_option maxRecDepth 100000 in
theorem walk (v0 v1:Value)(w:World)(a0:Arg Tryz.prog w 27 [.sl [.int .i64,.int .i64,.int .i64,.int .i64,.int .i64,.int .i64,.int .i64,.int .i64,.int .i64],.sl [.int .i64,.int .i64,.int .i64,.int .i64,.int .i64],.int .i64,.int .i64] v0)(a1:Arg Tryz.prog w 28 [.int .i64,.int .i64,.int .i64,.int .i64] v1) :
  Calls Tryz.prog 3 #[v0,v1] w fun e w'=>e=.returned (.bool true)/\Below w.heap.size w w':=by
 obtain⟨d0,s0,r0⟩:=a0
 obtain⟨d1,s1,r1⟩:=a1
 have hd:=dec s0 s1
 rw [ag27] at r0
 rw [ag28] at r1
 refine law_calls (ds:=[(true,d0),(true,d1)]) K.io3_0 (show 2<=K.nt3 by decide) hd ?_
 refine⟨rfl,fun i d v hd hv=>?_⟩
 match i with
 | 0=>simp at hd hv;subst hd;subst hv;exact r0
 | 1=>simp at hd hv;subst hd;subst hv;exact r1
 | i+2=>simp at hd
set_option maxRecDepth 100000 in
theorem lifted (os:Os)(started:os.Started)(H:Type)(enc:TypeId × Value->H) :
  ReturnsInHanded {} Tryz.checked os 3 .any (Rows.topKeptWithinSpec.pre6 enc Tryz.prog Tryz.f3 Rows.topKeptWithinRow.domain false) (Rows.topKeptWithinSpec.post enc Tryz.prog Tryz.f3 false true false false):=by
 refine returnsInHanded_of_change (C:=Tryz.checked) own started (by kernel_rfl) Tryz.func3
  (ChangeSpec.witness6 (enc:=enc) (C:=Tryz.checked) false ⟨#[],#[.agg #[.slice none 0 0,.slice none 0 0,.int .i64 0,.int .i64 0],.agg #[.int .i64 0,.int .i64 0,.int .i64 0,.int .i64 0]],[]⟩ 8 (by kernel_rfl) (by kernel_rfl) (by kernel_rfl) (by kernel_rfl)) ?_
 intro W base args ds gs before hval0 hW hcnd _
 have hval:∀ (j:Nat) t v,Tryz.f3.params[j]?=some t->args[j]?=some v->Value.okWide Tryz.prog W .any base t v:=hval0
 have hW':=hW
 obtain⟨p,q,hA0,hV,rfl,hfz,hnd⟩:=hW
 have hA:DataW.TrodAll enc Tryz.prog W 0 (fun _=>true) true Tryz.f3.params.toList args.toList ds p:=hA0
 rw [Tryz.params3] at hA hval
 obtain⟨v0,vs0,d0,ds0,p0,q0,hargs,rfl,rfl,h0,r0⟩:=trodAll_cons hA
 obtain⟨v1,vs1,d1,ds1,p1,q1,rfl,rfl,rfl,h1,r1⟩:=trodAll_cons r0
 obtain⟨rfl,rfl,rfl⟩:=trodAll_nil r1
 obtain rfl:args=#[v0,v1]:=by cases args;simp_all
 obtain⟨rfl,rfl⟩:=trodVars_none hV
 have lt0:∀ x ∈ p0,x.block < W.heap.size:=by obtain⟨m,hm⟩:=h0;exact DataW.trod_lt m _ _ _ hm
 have lt1:∀ x ∈ p1,x.block < W.heap.size:=by obtain⟨m,hm⟩:=h1;exact DataW.trod_lt m _ _ _ hm
 have k0:=arg_ok (hval 0 27 v0 rfl rfl) h0 ts27
 have k1:=arg_ok (hval 1 28 v1 rfl rfl) h1 ts28
 clear hA0 hval0
 refine (walk v0 v1 W k0 k1).mono fun e W' ⟨he,bel⟩=>?_
 subst he
 exact⟨_,rfl,_,_,_,[],_,[],hW',trodAll_mk1 (shut_bool Tryz.underlying4 _),(trodAll_cons_mk (Below.trod laidOut (by kernel_rfl) (of_decide_eq_true (by kernel_rfl)) h0 bel lt0) (trodAll_cons_mk (Below.trod laidOut (by kernel_rfl) (of_decide_eq_true (by kernel_rfl)) h1 bel lt1) trodAll_mk0)),rfl,bel.frame _,fun h=>by cases h⟩
theorem over:Rows.topKeptWithinRow.holds Tryz.pinned (OpenSpec.ofChange Rows.topKeptWithinSpec):=
 OpenClaim.holds_of_wide 3 Tryz.f3 rfl rfl rfl rfl rfl rfl rfl ⟨rfl,rfl,rfl,rfl,rfl⟩ rfl rfl rfl rfl rfl (by kernel_rfl) Tryz.func3 (by kernel_rfl)
  (of_decide_eq_true (by kernel_rfl)) (by unfold Func.isWrapper;first | (rw [if_pos (by decide +kernel)];kernel_rfl) | (rw [if_neg (by decide +kernel)];exact⟨rfl,rfl⟩))
  (fun os started H enc _=>lifted os started H enc)
theorem topKeptWithin_holds:Rows.TopKeptWithinSaid:=over
#print axioms topKeptWithin_holds
end Go.Proofs.YtmcplmhohldpjaaGreat.Gt3
