/- GrowReleases: for every input the statement is true, and the input reads as it did. No condition. -/
import Derived.Test.YtffcelhcekillaaGreatRows
import Derived.Test.YtffcelhcekillaaGreatYg
import Derived.Test.YtffcelhcekillaaGreatKF1
namespace Go.Proofs.YtffcelhcekillaaGreat.Gg4
open Go.ChangeShapes Go.WideShapes Go.ChangeAt Go.RowKit Go.AM
set_option linter.unusedVariables false
theorem own:ownKnob Tryz.prog.godebug=none:=by kernel_rfl
theorem laidOut:laidOutB Tryz.prog=true:=by kernel_rfl
theorem aK5:KI Tryz.prog 8 28=some [.sl [.int .i64,.int .i64,.int .i64],.sl [.int .i64,.int .i64],.int .i64,.sl [.int .i64,.int .i64,.int .i64,.int .i64,.int .i64,.int .i64,.int .i64,.int .i64,.int .i64],.int .i64,.int .i64]:=by kernel_rfl
theorem aIr:PF Tryz.prog 28=true:=by kernel_rfl
theorem of9 (r:List DC)(h:gi [.int .i64,.int .i64,.int .i64,.int .i64,.int .i64,.int .i64,.int .i64,.int .i64,.int .i64] r):∃ a:K.Dm,r=K.rD a:=by
 obtain⟨_,_,rfl,⟨_⟩,h1⟩:=h.cons;obtain⟨_,_,rfl,⟨_⟩,h2⟩:=h1.cons;obtain⟨_,_,rfl,⟨_⟩,h3⟩:=h2.cons;obtain⟨_,_,rfl,⟨_⟩,h4⟩:=h3.cons;obtain⟨_,_,rfl,⟨_⟩,h5⟩:=h4.cons;obtain⟨_,_,rfl,⟨_⟩,h6⟩:=h5.cons;obtain⟨_,_,rfl,⟨_⟩,h7⟩:=h6.cons;obtain⟨_,_,rfl,⟨_⟩,h8⟩:=h7.cons;obtain⟨_,_,rfl,⟨_⟩,h9⟩:=h8.cons;obtain rfl:=h9.nil;exact⟨⟨_,_,_,_,_,_,_,_,_⟩,rfl⟩
theorem of3 (r:List DC)(h:gi [.int .i64,.int .i64,.int .i64] r):∃ a:Int × Int × Int,r=K.rT3 a:=by
 obtain⟨_,_,rfl,⟨_⟩,h1⟩:=h.cons;obtain⟨_,_,rfl,⟨_⟩,h2⟩:=h1.cons;obtain⟨_,_,rfl,⟨_⟩,h3⟩:=h2.cons;obtain rfl:=h3.nil;exact⟨(_,_,_),rfl⟩
theorem of2 (r:List DC)(h:gi [.int .i64,.int .i64] r):∃ a:Int × Int,r=K.rT2 a:=by
 obtain⟨_,_,rfl,⟨_⟩,h1⟩:=h.cons;obtain⟨_,_,rfl,⟨_⟩,h2⟩:=h1.cons;obtain rfl:=h2.nil;exact⟨(_,_),rfl⟩
theorem dec {d0:List DC}(s0:gi [.sl [.int .i64,.int .i64,.int .i64],.sl [.int .i64,.int .i64],.int .i64,.sl [.int .i64,.int .i64,.int .i64,.int .i64,.int .i64,.int .i64,.int .i64,.int .i64,.int .i64],.int .i64,.int .i64] d0) :
  K.fx.dec [(true,d0)] (K.av6 K.agG _ some)=some (some [rB true]):=by
 obtain⟨_,_,rfl,t0,u1⟩:=s0.cons;obtain⟨_,_,rfl,t1,u2⟩:=u1.cons;obtain⟨_,_,rfl,⟨_⟩,u3⟩:=u2.cons;obtain⟨_,_,rfl,t3,u4⟩:=u3.cons;obtain⟨_,_,rfl,⟨_⟩,u5⟩:=u4.cons;obtain⟨_,_,rfl,⟨_⟩,u6⟩:=u5.cons;obtain rfl:=u6.nil;obtain⟨r0,rfl,_,q0⟩:=t0.rows;obtain⟨r1,rfl,_,q1⟩:=t1.rows;obtain⟨r3,rfl,_,q3⟩:=t3.rows;obtain⟨l0,rfl⟩:=AC of3 r0 q0;obtain⟨l1,rfl⟩:=AC of2 r1 q1;obtain⟨l3,rfl⟩:=AC of9 r3 q3;show some (K.agG _ _ _ _ _ _ _ _)=_;rw [K.aJR];rfl
set_option maxRecDepth 100000 in
theorem walk (v0:Value)(w:World)(a0:Arg Tryz.prog w 28 [.sl [.int .i64,.int .i64,.int .i64],.sl [.int .i64,.int .i64],.int .i64,.sl [.int .i64,.int .i64,.int .i64,.int .i64,.int .i64,.int .i64,.int .i64,.int .i64,.int .i64],.int .i64,.int .i64] v0) :
  Calls Tryz.prog 4 #[v0] w fun e w'=>e=.returned (.bool true)/\Below w.heap.size w w':=by
 obtain⟨d0,s0,r0⟩:=a0;have hd:=dec s0;rw [aIr] at r0;refine aai (ds:=[(true,d0)]) K.aCN (show 1<=K.nt4 by decide) hd ?_;refine⟨rfl,fun i d v hd hv=>?_⟩
 match i with
 | 0=>simp at hd hv;subst hd;subst hv;exact r0
 | i+1=>simp at hd
set_option maxRecDepth 100000 in
theorem lifted (os:Os)(started:os.Started)(H:Type)(enc:TypeId × Value->H) :
  ReturnsInHanded {} Tryz.checked os 4 .any (Rows.growReleasesSpec.pre6 enc Tryz.prog Tryz.f4 Rows.growReleasesRow.domain false) (Rows.growReleasesSpec.post enc Tryz.prog Tryz.f4 false true false false):=by
 refine returnsInHanded_of_change (C:=Tryz.checked) own started (by kernel_rfl) Tryz.func4
  (ChangeSpec.witness6 (enc:=enc) (C:=Tryz.checked) false ⟨#[],#[.agg #[.slice none 0 0,.slice none 0 0,.int .i64 0,.slice none 0 0,.int .i64 0,.int .i64 0]],[]⟩ 8 (by kernel_rfl) (by kernel_rfl) (by kernel_rfl) (by kernel_rfl)) ?_
 intro W base args ds gs before hval0 hW hcnd _;have hval:∀ (j:Nat) t v,Tryz.f4.params[j]?=some t->args[j]?=some v->Value.okWide Tryz.prog W .any base t v:=hval0;have hW':=hW;obtain⟨p,q,hA0,hV,rfl,hfz,hnd⟩:=hW;have hA:DataW.TrodAll enc Tryz.prog W 0 (fun _=>true) true Tryz.f4.params.toList args.toList ds p:=hA0;rw [Tryz.params4] at hA hval;obtain⟨v0,vs0,d0,ds0,p0,q0,hargs,rfl,rfl,h0,r0⟩:=trodAll_cons hA;obtain⟨rfl,rfl,rfl⟩:=trodAll_nil r0;obtain rfl:args=#[v0]:=by cases args;simp_all
 obtain⟨rfl,rfl⟩:=trodVars_none hV;have lt0:∀ x ∈ p0,x.block < W.heap.size:=by obtain⟨m,hm⟩:=h0;exact DataW.trod_lt m _ _ _ hm
 have k0:=axe (hval 0 28 v0 rfl rfl) h0 aK5;clear hA0 hval0;refine (walk v0 W k0).mono fun e W' ⟨he,bel⟩=>?_;subst he;exact⟨_,rfl,_,_,_,[],_,[],hW',trodAll_mk1 (shut_bool Tryz.underlying4 _),(trodAll_cons_mk (Below.trod laidOut (by kernel_rfl) (of_decide_eq_true (by kernel_rfl)) h0 bel lt0) trodAll_mk0),rfl,bel.frame _,fun h=>by cases h⟩
theorem over:Rows.growReleasesRow.holds Tryz.pinned (OpenSpec.ofChange Rows.growReleasesSpec):=
 OpenClaim.holds_of_wide 4 Tryz.f4 rfl rfl rfl rfl rfl rfl rfl ⟨rfl,rfl,rfl,rfl,rfl⟩ rfl rfl rfl rfl rfl (by kernel_rfl) Tryz.func4 (by kernel_rfl)
  (of_decide_eq_true (by kernel_rfl)) (by unfold Func.isWrapper;first | (rw [if_pos (by decide +kernel)];kernel_rfl) | (rw [if_neg (by decide +kernel)];exact⟨rfl,rfl⟩))
  (fun os started H enc _=>lifted os started H enc)
theorem growReleases_holds:Rows.GrowReleasesSaid:=over
#print axioms growReleases_holds
end Go.Proofs.YtffcelhcekillaaGreat.Gg4
