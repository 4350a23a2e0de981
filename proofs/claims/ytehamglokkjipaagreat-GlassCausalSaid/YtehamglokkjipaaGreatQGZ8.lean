/- GlassCausal: for every input the statement is true, and the input reads as it did. No condition. -/
import Derived.Test.YtehamglokkjipaaGreatRows
import Derived.Test.YtehamglokkjipaaGreatQGQ8
import Derived.Test.YtehamglokkjipaaGreatKF1
namespace Go.Proofs.YtehamglokkjipaaGreat.Gq8
open Go.ChangeShapes Go.WideShapes Go.ChangeAt Go.RowKit Go.AM
set_option linter.unusedVariables false
theorem own:ownKnob Tryz.prog.godebug=none:=by kernel_rfl
theorem laidOut:laidOutB Tryz.prog=true:=by kernel_rfl
theorem ts22:tsOf Tryz.prog 8 22=some [.sl [.int .i64]]:=by kernel_rfl
theorem ag22:isAggT Tryz.prog 22=false:=by kernel_rfl
theorem of1 (r:List DC)(h:TSoks [.int .i64] r):∃ a:Int,r=rI1 a:=by
 obtain⟨_,_,rfl,⟨_⟩,h1⟩:=h.cons
 obtain rfl:=h1.nil
 exact⟨_,rfl⟩
theorem dec {d0:List DC}(s0:TSoks [.sl [.int .i64]] d0) :
  K.pa8_0.dec [(false,d0)] (K.Fn8_0 K.f8_0 _ some)=some (some [rB true]):=by
 obtain⟨_,_,rfl,t0,u0⟩:=s0.cons
 obtain rfl:=u0.nil
 obtain⟨r0,rfl,_,q0⟩:=t0.rows
 obtain⟨l0,rfl⟩:=rows_of of1 r0 q0
 show some (K.f8_0 _ _ _)=_
 rw [K.law8];rfl
set_option maxRecDepth 100000 in
theorem walk (v0:Value)(w:World)(a0:Arg Tryz.prog w 22 [.sl [.int .i64]] v0) :
  Calls Tryz.prog 8 #[v0] w fun e w'=>e=.returned (.bool true)/\Below w.heap.size w w':=by
 obtain⟨d0,s0,r0⟩:=a0
 have hd:=dec s0
 rw [ag22] at r0
 refine law_calls (ds:=[(false,d0)]) K.io8_0 (show 1<=K.nt8 by decide) hd ?_
 refine⟨rfl,fun i d v hd hv=>?_⟩
 match i with
 | 0=>simp at hd hv;subst hd;subst hv;exact r0
 | i+1=>simp at hd
set_option maxRecDepth 100000 in
theorem lifted (os:Os)(started:os.Started)(H:Type)(enc:TypeId × Value->H) :
  ReturnsInHanded {} Tryz.checked os 8 .any (Rows.glassCausalSpec.pre6 enc Tryz.prog Tryz.f8 Rows.glassCausalRow.domain false) (Rows.glassCausalSpec.post enc Tryz.prog Tryz.f8 false true false false):=by
 refine returnsInHanded_of_change (C:=Tryz.checked) own started (by kernel_rfl) Tryz.func8
  (ChangeSpec.witness6 (enc:=enc) (C:=Tryz.checked) false ⟨#[],#[.slice none 0 0],[]⟩ 8 (by kernel_rfl) (by kernel_rfl) (by kernel_rfl) (by kernel_rfl)) ?_
 intro W base args ds gs before hval0 hW hcnd _
 have hval:∀ (j:Nat) t v,Tryz.f8.params[j]?=some t->args[j]?=some v->Value.okWide Tryz.prog W .any base t v:=hval0
 have hW':=hW
 obtain⟨p,q,hA0,hV,rfl,hfz,hnd⟩:=hW
 have hA:DataW.TrodAll enc Tryz.prog W 0 (fun _=>true) true Tryz.f8.params.toList args.toList ds p:=hA0
 rw [Tryz.params8] at hA hval
 obtain⟨v0,vs0,d0,ds0,p0,q0,hargs,rfl,rfl,h0,r0⟩:=trodAll_cons hA
 obtain⟨rfl,rfl,rfl⟩:=trodAll_nil r0
 obtain rfl:args=#[v0]:=by cases args;simp_all
 obtain⟨rfl,rfl⟩:=trodVars_none hV
 have lt0:∀ x ∈ p0,x.block < W.heap.size:=by obtain⟨m,hm⟩:=h0;exact DataW.trod_lt m _ _ _ hm
 have k0:=arg_ok (hval 0 22 v0 rfl rfl) h0 ts22
 clear hA0 hval0
 refine (walk v0 W k0).mono fun e W' ⟨he,bel⟩=>?_
 subst he
 exact⟨_,rfl,_,_,_,[],_,[],hW',trodAll_mk1 (shut_bool Tryz.underlying4 _),(trodAll_cons_mk (Below.trod laidOut (by kernel_rfl) (of_decide_eq_true (by kernel_rfl)) h0 bel lt0) trodAll_mk0),rfl,bel.frame _,fun h=>by cases h⟩
theorem over:Rows.glassCausalRow.holds Tryz.pinned (OpenSpec.ofChange Rows.glassCausalSpec):=
 OpenClaim.holds_of_wide 8 Tryz.f8 rfl rfl rfl rfl rfl rfl rfl ⟨rfl,rfl,rfl,rfl,rfl⟩ rfl rfl rfl rfl rfl (by kernel_rfl) Tryz.func8 (by kernel_rfl)
  (of_decide_eq_true (by kernel_rfl)) (by unfold Func.isWrapper;first | (rw [if_pos (by decide +kernel)];kernel_rfl) | (rw [if_neg (by decide +kernel)];exact⟨rfl,rfl⟩))
  (fun os started H enc _=>lifted os started H enc)
theorem glassCausal_holds:Rows.GlassCausalSaid:=over
#print axioms glassCausal_holds
end Go.Proofs.YtehamglokkjipaaGreat.Gq8
