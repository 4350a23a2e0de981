/- GrowCompensates: for every input the statement is true, and the input reads as it did. No condition. -/
import Derived.Test.YtffcelhcekillaaGreatRows
import Derived.Test.YtffcelhcekillaaGreatYg
import Derived.Test.YtffcelhcekillaaGreatKF1
namespace Go.Proofs.YtffcelhcekillaaGreat.Gg5
open Go.ChangeShapes Go.WideShapes Go.ChangeAt Go.RowKit Go.AM
set_option linter.unusedVariables false
theorem own:ownKnob Tryz.prog.godebug=none:=by kernel_rfl
theorem laidOut:laidOutB Tryz.prog=true:=by kernel_rfl
theorem aKl:JY Tryz.prog 8 28=some [.sl [.int .i64,.int .i64,.int .i64],.sl [.int .i64,.int .i64],.int .i64,.sl [.int .i64,.int .i64,.int .i64,.int .i64,.int .i64,.int .i64,.int .i64,.int .i64,.int .i64],.int .i64,.int .i64]:=by kernel_rfl
theorem aJy:KQ Tryz.prog 28=true:=by kernel_rfl
theorem ts3:JY Tryz.prog 8 3=some [.int .i64]:=by kernel_rfl
theorem ag3:KQ Tryz.prog 3=false:=by kernel_rfl
theorem of9 (r:List DC)(h:fN [.int .i64,.int .i64,.int .i64,.int .i64,.int .i64,.int .i64,.int .i64,.int .i64,.int .i64] r):∃ a:K.Dm,r=K.rD a:=by
 obtain⟨_,_,rfl,⟨_⟩,h1⟩:=h.cons;obtain⟨_,_,rfl,⟨_⟩,h2⟩:=h1.cons;obtain⟨_,_,rfl,⟨_⟩,h3⟩:=h2.cons;obtain⟨_,_,rfl,⟨_⟩,h4⟩:=h3.cons;obtain⟨_,_,rfl,⟨_⟩,h5⟩:=h4.cons;obtain⟨_,_,rfl,⟨_⟩,h6⟩:=h5.cons;obtain⟨_,_,rfl,⟨_⟩,h7⟩:=h6.cons;obtain⟨_,_,rfl,⟨_⟩,h8⟩:=h7.cons;obtain⟨_,_,rfl,⟨_⟩,h9⟩:=h8.cons;obtain rfl:=h9.nil;exact⟨⟨_,_,_,_,_,_,_,_,_⟩,rfl⟩
theorem of3 (r:List DC)(h:fN [.int .i64,.int .i64,.int .i64] r):∃ a:Int × Int × Int,r=K.rT3 a:=by
 obtain⟨_,_,rfl,⟨_⟩,h1⟩:=h.cons;obtain⟨_,_,rfl,⟨_⟩,h2⟩:=h1.cons;obtain⟨_,_,rfl,⟨_⟩,h3⟩:=h2.cons;obtain rfl:=h3.nil;exact⟨(_,_,_),rfl⟩
theorem of2 (r:List DC)(h:fN [.int .i64,.int .i64] r):∃ a:Int × Int,r=K.rT2 a:=by
 obtain⟨_,_,rfl,⟨_⟩,h1⟩:=h.cons;obtain⟨_,_,rfl,⟨_⟩,h2⟩:=h1.cons;obtain rfl:=h2.nil;exact⟨(_,_),rfl⟩
theorem dec {d0 d1:List DC}(s0:fN [.sl [.int .i64,.int .i64,.int .i64],.sl [.int .i64,.int .i64],.int .i64,.sl [.int .i64,.int .i64,.int .i64,.int .i64,.int .i64,.int .i64,.int .i64,.int .i64,.int .i64],.int .i64,.int .i64] d0)(s1:fN [.int .i64] d1) :
  K.yu.dec [(true,d0),(false,d1)] (K.av8 K.aia _ some)=some (some [rB true]):=by
 obtain⟨_,_,rfl,t0,u1⟩:=s0.cons;obtain⟨_,_,rfl,t1,u2⟩:=u1.cons;obtain⟨_,_,rfl,⟨_⟩,u3⟩:=u2.cons;obtain⟨_,_,rfl,t3,u4⟩:=u3.cons;obtain⟨_,_,rfl,⟨_⟩,u5⟩:=u4.cons;obtain⟨_,_,rfl,⟨_⟩,u6⟩:=u5.cons;obtain rfl:=u6.nil;obtain⟨_,_,rfl,⟨_⟩,w1⟩:=s1.cons;obtain rfl:=w1.nil;obtain⟨r0,rfl,_,q0⟩:=t0.rows;obtain⟨r1,rfl,_,q1⟩:=t1.rows;obtain⟨r3,rfl,_,q3⟩:=t3.rows;obtain⟨l0,rfl⟩:=zH of3 r0 q0;obtain⟨l1,rfl⟩:=zH of2 r1 q1;obtain⟨l3,rfl⟩:=zH of9 r3 q3;show some (K.aia _ _ _ _ _ _ _ _ _)=_;rw [K.aI3];rfl
set_option maxRecDepth 100000 in
theorem walk (v0 v1:Value)(w:World)(a0:Arg Tryz.prog w 28 [.sl [.int .i64,.int .i64,.int .i64],.sl [.int .i64,.int .i64],.int .i64,.sl [.int .i64,.int .i64,.int .i64,.int .i64,.int .i64,.int .i64,.int .i64,.int .i64,.int .i64],.int .i64,.int .i64] v0)(a1:Arg Tryz.prog w 3 [.int .i64] v1) :
  Calls Tryz.prog 5 #[v0,v1] w fun e w'=>e=.returned (.bool true)/\Below w.heap.size w w':=by
 obtain⟨d0,s0,r0⟩:=a0;obtain⟨d1,s1,r1⟩:=a1;have hd:=dec s0 s1;rw [aJy] at r0;rw [ag3] at r1;refine aar (ds:=[(true,d0),(false,d1)]) K.aGr (show 2<=K.nt5 by decide) hd ?_;refine⟨rfl,fun i d v hd hv=>?_⟩
 match i with
 | 0=>simp at hd hv;subst hd;subst hv;exact r0
 | 1=>simp at hd hv;subst hd;subst hv;exact r1
 | i+2=>simp at hd
set_option maxRecDepth 100000 in
theorem lifted (os:Os)(started:os.Started)(H:Type)(enc:TypeId × Value->H) :
  ReturnsInHanded {} Tryz.checked os 5 .any (Rows.growCompensatesSpec.pre6 enc Tryz.prog Tryz.f5 Rows.growCompensatesRow.domain false) (Rows.growCompensatesSpec.post enc Tryz.prog Tryz.f5 false true false false):=by
 refine returnsInHanded_of_change (C:=Tryz.checked) own started (by kernel_rfl) Tryz.func5
  (ChangeSpec.witness6 (enc:=enc) (C:=Tryz.checked) false ⟨#[],#[.agg #[.slice none 0 0,.slice none 0 0,.int .i64 0,.slice none 0 0,.int .i64 0,.int .i64 0],.int .i64 0],[]⟩ 8 (by kernel_rfl) (by kernel_rfl) (by kernel_rfl) (by kernel_rfl)) ?_
 intro W base args ds gs before hval0 hW hcnd _;have hval:∀ (j:Nat) t v,Tryz.f5.params[j]?=some t->args[j]?=some v->Value.okWide Tryz.prog W .any base t v:=hval0;have hW':=hW;obtain⟨p,q,hA0,hV,rfl,hfz,hnd⟩:=hW;have hA:DataW.TrodAll enc Tryz.prog W 0 (fun _=>true) true Tryz.f5.params.toList args.toList ds p:=hA0;rw [Tryz.params5] at hA hval;obtain⟨v0,vs0,d0,ds0,p0,q0,hargs,rfl,rfl,h0,r0⟩:=trodAll_cons hA;obtain⟨v1,vs1,d1,ds1,p1,q1,rfl,rfl,rfl,h1,r1⟩:=trodAll_cons r0;obtain⟨rfl,rfl,rfl⟩:=trodAll_nil r1;obtain rfl:args=#[v0,v1]:=by cases args;simp_all
 obtain⟨rfl,rfl⟩:=trodVars_none hV;have lt0:∀ x ∈ p0,x.block < W.heap.size:=by obtain⟨m,hm⟩:=h0;exact DataW.trod_lt m _ _ _ hm
 have lt1:∀ x ∈ p1,x.block < W.heap.size:=by obtain⟨m,hm⟩:=h1;exact DataW.trod_lt m _ _ _ hm
 have k0:=afv (hval 0 28 v0 rfl rfl) h0 aKl;have k1:=afv (hval 1 3 v1 rfl rfl) h1 ts3;clear hA0 hval0;refine (walk v0 v1 W k0 k1).mono fun e W' ⟨he,bel⟩=>?_;subst he;exact⟨_,rfl,_,_,_,[],_,[],hW',trodAll_mk1 (shut_bool Tryz.underlying4 _),(trodAll_cons_mk (Below.trod laidOut (by kernel_rfl) (of_decide_eq_true (by kernel_rfl)) h0 bel lt0) (trodAll_cons_mk (Below.trod laidOut (by kernel_rfl) (of_decide_eq_true (by kernel_rfl)) h1 bel lt1) trodAll_mk0)),rfl,bel.frame _,fun h=>by cases h⟩
theorem over:Rows.growCompensatesRow.holds Tryz.pinned (OpenSpec.ofChange Rows.growCompensatesSpec):=
 OpenClaim.holds_of_wide 5 Tryz.f5 rfl rfl rfl rfl rfl rfl rfl ⟨rfl,rfl,rfl,rfl,rfl⟩ rfl rfl rfl rfl rfl (by kernel_rfl) Tryz.func5 (by kernel_rfl)
  (of_decide_eq_true (by kernel_rfl)) (by unfold Func.isWrapper;first | (rw [if_pos (by decide +kernel)];kernel_rfl) | (rw [if_neg (by decide +kernel)];exact⟨rfl,rfl⟩))
  (fun os started H enc _=>lifted os started H enc)
theorem growCompensates_holds:Rows.GrowCompensatesSaid:=over
#print axioms growCompensates_holds
end Go.Proofs.YtffcelhcekillaaGreat.Gg5
