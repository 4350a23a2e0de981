/- TopNoFewerLayers: for every input the statement is true, and the input reads as it did. No condition. -/
import Derived.Test.YtmcplmhohldpjaaGreatRows
import Derived.Test.YtmcplmhohldpjaaGreatT4y
import Derived.Test.YtmcplmhohldpjaaGreatKF1
namespace Go.Proofs.YtmcplmhohldpjaaGreat.Gt4
open Go.ChangeShapes Go.WideShapes Go.ChangeAt Go.RowKit Go.AM
set_option linter.unusedVariables false
theorem own:ownKnob Tryz.prog.godebug=none:=by kernel_rfl
theorem laidOut:laidOutB Tryz.prog=true:=by kernel_rfl
theorem arC:BB Tryz.prog 8 55=some [.sl [.int .i64,.int .i64,.int .i64,.int .i64,.int .i64,.int .i64,.int .i64,.int .i64,.int .i64],.sl [.int .i64,.int .i64,.int .i64,.int .i64,.int .i64],.int .i64,.int .i64,.int .i64]:=by kernel_rfl
theorem as9:Ad Tryz.prog 55=true:=by kernel_rfl
theorem auB:BB Tryz.prog 8 56=some [.sl [.int .i64]]:=by kernel_rfl
theorem arJ:Ad Tryz.prog 56=false:=by kernel_rfl
theorem atd:BB Tryz.prog 8 57=some [.int .i64,.int .i64]:=by kernel_rfl
theorem atU:Ad Tryz.prog 57=true:=by kernel_rfl
theorem of9 (r:List DC)(h:fA [.int .i64,.int .i64,.int .i64,.int .i64,.int .i64,.int .i64,.int .i64,.int .i64,.int .i64] r):∃ a:K.Dm,r=K.rD a:=by
 obtain⟨_,_,rfl,⟨_⟩,h1⟩:=h.cons
 obtain⟨_,_,rfl,⟨_⟩,h2⟩:=h1.cons
 obtain⟨_,_,rfl,⟨_⟩,h3⟩:=h2.cons
 obtain⟨_,_,rfl,⟨_⟩,h4⟩:=h3.cons
 obtain⟨_,_,rfl,⟨_⟩,h5⟩:=h4.cons
 obtain⟨_,_,rfl,⟨_⟩,h6⟩:=h5.cons
 obtain⟨_,_,rfl,⟨_⟩,h7⟩:=h6.cons
 obtain⟨_,_,rfl,⟨_⟩,h8⟩:=h7.cons
 obtain⟨_,_,rfl,⟨_⟩,h9⟩:=h8.cons
 obtain rfl:=h9.nil
 exact⟨⟨_,_,_,_,_,_,_,_,_⟩,rfl⟩
theorem of5 (r:List DC)(h:fA [.int .i64,.int .i64,.int .i64,.int .i64,.int .i64] r):∃ a:K.L5,r=K.rL a:=by
 obtain⟨_,_,rfl,⟨_⟩,h1⟩:=h.cons
 obtain⟨_,_,rfl,⟨_⟩,h2⟩:=h1.cons
 obtain⟨_,_,rfl,⟨_⟩,h3⟩:=h2.cons
 obtain⟨_,_,rfl,⟨_⟩,h4⟩:=h3.cons
 obtain⟨_,_,rfl,⟨_⟩,h5⟩:=h4.cons
 obtain rfl:=h5.nil
 exact⟨(_,_,_,_,_),rfl⟩
theorem of1 (r:List DC)(h:fA [.int .i64] r):∃ a:Int,r=rI1 a:=by
 obtain⟨_,_,rfl,⟨_⟩,h1⟩:=h.cons
 obtain rfl:=h1.nil
 exact⟨_,rfl⟩
theorem dec {d0 d1 d2:List DC}(s0:fA [.sl [.int .i64,.int .i64,.int .i64,.int .i64,.int .i64,.int .i64,.int .i64,.int .i64,.int .i64],.sl [.int .i64,.int .i64,.int .i64,.int .i64,.int .i64],.int .i64,.int .i64,.int .i64] d0)(s1:fA [.sl [.int .i64]] d1)(s2:fA [.int .i64,.int .i64] d2) :
  K.aht.dec [(true,d0),(false,d1),(true,d2)] (K.ahb K.UH _ some)=some (some [rB true]):=by
 obtain⟨_,_,rfl,t0,u1⟩:=s0.cons
 obtain⟨_,_,rfl,t1,u2⟩:=u1.cons
 obtain⟨_,_,rfl,⟨_⟩,u3⟩:=u2.cons
 obtain⟨_,_,rfl,⟨_⟩,u4⟩:=u3.cons
 obtain⟨_,_,rfl,⟨_⟩,u5⟩:=u4.cons
 obtain rfl:=u5.nil
 obtain⟨_,_,rfl,t4,v1⟩:=s1.cons
 obtain rfl:=v1.nil
 obtain⟨_,_,rfl,⟨_⟩,w1⟩:=s2.cons
 obtain⟨_,_,rfl,⟨_⟩,w2⟩:=w1.cons
 obtain rfl:=w2.nil
 obtain⟨r0,rfl,_,q0⟩:=t0.rows
 obtain⟨r1,rfl,_,q1⟩:=t1.rows
 obtain⟨r4,rfl,_,q4⟩:=t4.rows
 obtain⟨l0,rfl⟩:=xb of9 r0 q0
 obtain⟨l1,rfl⟩:=xb of5 r1 q1
 obtain⟨l4,rfl⟩:=xb of1 r4 q4
 show some (K.UH _ _ _ _ _ _ _ _ _ _)=_
 rw [K.at0];rfl
set_option maxRecDepth 100000 in
theorem walk (v0 v1 v2:Value)(w:World)(a0:Arg Tryz.prog w 55 [.sl [.int .i64,.int .i64,.int .i64,.int .i64,.int .i64,.int .i64,.int .i64,.int .i64,.int .i64],.sl [.int .i64,.int .i64,.int .i64,.int .i64,.int .i64],.int .i64,.int .i64,.int .i64] v0)(a1:Arg Tryz.prog w 56 [.sl [.int .i64]] v1)(a2:Arg Tryz.prog w 57 [.int .i64,.int .i64] v2) :
  Calls Tryz.prog 4 #[v0,v1,v2] w fun e w'=>e=.returned (.bool true)/\Below w.heap.size w w':=by
 obtain⟨d0,s0,r0⟩:=a0
 obtain⟨d1,s1,r1⟩:=a1
 obtain⟨d2,s2,r2⟩:=a2
 have hd:=dec s0 s1 s2
 rw [as9] at r0
 rw [arJ] at r1
 rw [atU] at r2
 refine Rh (ds:=[(true,d0),(false,d1),(true,d2)]) K.aql (show 3<=K.nt4 by decide) hd ?_
 refine⟨rfl,fun i d v hd hv=>?_⟩
 match i with
 | 0=>simp at hd hv;subst hd;subst hv;exact r0
 | 1=>simp at hd hv;subst hd;subst hv;exact r1
 | 2=>simp at hd hv;subst hd;subst hv;exact r2
 | i+3=>simp at hd
set_option maxRecDepth 100000 in
theorem lifted (os:Os)(started:os.Started)(H:Type)(enc:TypeId × Value->H) :
  ReturnsInHanded {} Tryz.checked os 4 .any (Rows.topNoFewerLayersSpec.pre6 enc Tryz.prog Tryz.f4 Rows.topNoFewerLayersRow.domain false) (Rows.topNoFewerLayersSpec.post enc Tryz.prog Tryz.f4 false true false false):=by
 refine returnsInHanded_of_change (C:=Tryz.checked) own started (by kernel_rfl) Tryz.func4
  (ChangeSpec.witness6 (enc:=enc) (C:=Tryz.checked) false ⟨#[],#[.agg #[.slice none 0 0,.slice none 0 0,.int .i64 0,.int .i64 0,.int .i64 0],.slice none 0 0,.agg #[.int .i64 0,.int .i64 0]],[]⟩ 8 (by kernel_rfl) (by kernel_rfl) (by kernel_rfl) (by kernel_rfl)) ?_
 intro W base args ds gs before hval0 hW hcnd _
 have hval:∀ (j:Nat) t v,Tryz.f4.params[j]?=some t->args[j]?=some v->Value.okWide Tryz.prog W .any base t v:=hval0
 have hW':=hW
 obtain⟨p,q,hA0,hV,rfl,hfz,hnd⟩:=hW
 have hA:DataW.TrodAll enc Tryz.prog W 0 (fun _=>true) true Tryz.f4.params.toList args.toList ds p:=hA0
 rw [Tryz.params4] at hA hval
 obtain⟨v0,vs0,d0,ds0,p0,q0,hargs,rfl,rfl,h0,r0⟩:=trodAll_cons hA
 obtain⟨v1,vs1,d1,ds1,p1,q1,rfl,rfl,rfl,h1,r1⟩:=trodAll_cons r0
 obtain⟨v2,vs2,d2,ds2,p2,q2,rfl,rfl,rfl,h2,r2⟩:=trodAll_cons r1
 obtain⟨rfl,rfl,rfl⟩:=trodAll_nil r2
 obtain rfl:args=#[v0,v1,v2]:=by cases args;simp_all
 obtain⟨rfl,rfl⟩:=trodVars_none hV
 have lt0:∀ x ∈ p0,x.block < W.heap.size:=by obtain⟨m,hm⟩:=h0;exact DataW.trod_lt m _ _ _ hm
 have lt1:∀ x ∈ p1,x.block < W.heap.size:=by obtain⟨m,hm⟩:=h1;exact DataW.trod_lt m _ _ _ hm
 have lt2:∀ x ∈ p2,x.block < W.heap.size:=by obtain⟨m,hm⟩:=h2;exact DataW.trod_lt m _ _ _ hm
 have k0:=JS (hval 0 55 v0 rfl rfl) h0 arC
 have k1:=JS (hval 1 56 v1 rfl rfl) h1 auB
 have k2:=JS (hval 2 57 v2 rfl rfl) h2 atd
 clear hA0 hval0
 refine (walk v0 v1 v2 W k0 k1 k2).mono fun e W' ⟨he,bel⟩=>?_
 subst he
 exact⟨_,rfl,_,_,_,[],_,[],hW',trodAll_mk1 (shut_bool Tryz.underlying4 _),(trodAll_cons_mk (Below.trod laidOut (by kernel_rfl) (of_decide_eq_true (by kernel_rfl)) h0 bel lt0) (trodAll_cons_mk (Below.trod laidOut (by kernel_rfl) (of_decide_eq_true (by kernel_rfl)) h1 bel lt1) (trodAll_cons_mk (Below.trod laidOut (by kernel_rfl) (of_decide_eq_true (by kernel_rfl)) h2 bel lt2) trodAll_mk0))),rfl,bel.frame _,fun h=>by cases h⟩
theorem over:Rows.topNoFewerLayersRow.holds Tryz.pinned (OpenSpec.ofChange Rows.topNoFewerLayersSpec):=
 OpenClaim.holds_of_wide 4 Tryz.f4 rfl rfl rfl rfl rfl rfl rfl ⟨rfl,rfl,rfl,rfl,rfl⟩ rfl rfl rfl rfl rfl (by kernel_rfl) Tryz.func4 (by kernel_rfl)
  (of_decide_eq_true (by kernel_rfl)) (by unfold Func.isWrapper;first | (rw [if_pos (by decide +kernel)];kernel_rfl) | (rw [if_neg (by decide +kernel)];exact⟨rfl,rfl⟩))
  (fun os started H enc _=>lifted os started H enc)
theorem topNoFewerLayers_holds:Rows.TopNoFewerLayersSaid:=over
#print axioms topNoFewerLayers_holds
end Go.Proofs.YtmcplmhohldpjaaGreat.Gt4
