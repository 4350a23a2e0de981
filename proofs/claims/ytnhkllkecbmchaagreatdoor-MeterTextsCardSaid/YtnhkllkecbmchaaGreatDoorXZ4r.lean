/- MeterTexts: for every input the statement is true, and the input reads as it did. Of the library's variables that the row lists, it is assumed that they read as listed. -/
import Derived.Test.YtnhkllkecbmchaaGreatDoorRows
import Derived.Test.YtnhkllkecbmchaaGreatDoorTX8
import Derived.Test.YtnhkllkecbmchaaGreatDoorKF4
import Derived.Test.YtnhkllkecbmchaaGreatDoorXZG
import Derived.Shelf.Vars
namespace Go.Proofs.YtnhkllkecbmchaaGreatDoor.Mt4
open Go.ChangeShapes Go.WideShapes Go.ChangeAt Go.RowKit Go.AM
set_option linter.unusedVariables false
theorem own:ownKnob Tryz.prog.godebug=none:=by kernel_rfl
theorem laidOut:laidOutB Tryz.prog=true:=by kernel_rfl
theorem ts35:tsOf Tryz.prog 8 35=some [.sl [.str,.int .i64,.int .i64,.int .i64,.int .i64,.int .i64,.int .i64,.int .i64,.int .i64,.int .i64]]:=by kernel_rfl
theorem ag35:isAggT Tryz.prog 35=false:=by kernel_rfl
theorem ts9:tsOf Tryz.prog 8 9=some [.str]:=by kernel_rfl
theorem ag9:isAggT Tryz.prog 9=false:=by kernel_rfl
theorem in64_of {n:Int}(h:(Lit.int .i64 n).wf=true):K.in64 n:=by
 have:-9223372036854775808<=n/\n<=9223372036854775807:=by simpa [Lit.wf,IntKind.min,IntKind.max,IntKind.signed,IntKind.bits] using h
 exact this
theorem rows_ofP {A:Type}{P:A->Prop}{enc:A->List DC}{l:List TS}(h:∀ r,TSoks l r->∃ a,P a/\r=enc a):∀ rows:List (List DC),(∀ r ∈ rows,TSoks l r)->∃ L:List A,(∀ a ∈ L,P a)/\rows=L.map enc
 | [],_=>⟨[],by simp,rfl⟩
 | r::rows,hr=>by
  obtain⟨a,ha,rfl⟩:=h r (hr r (by simp))
  obtain⟨L,hL,rfl⟩:=rows_ofP h rows fun q hq=>hr q (List.mem_cons_of_mem _ hq)
  refine⟨a::L,fun b hb=>?_,rfl⟩
  rcases List.mem_cons.1 hb with h1 | h1
  ·subst h1;exact ha
  ·exact hL b h1
theorem ofRd (r:List DC)(h:TSoks [.str,.int .i64,.int .i64,.int .i64,.int .i64,.int .i64,.int .i64,.int .i64,.int .i64,.int .i64] r):∃ a:K.Rdg,a.In/\r=a.row:=by
 obtain⟨_,_,rfl,⟨_⟩,h1⟩:=h.cons
 obtain⟨_,_,rfl,⟨g1⟩,h2⟩:=h1.cons
 obtain⟨_,_,rfl,⟨g2⟩,h3⟩:=h2.cons
 obtain⟨_,_,rfl,⟨g3⟩,h4⟩:=h3.cons
 obtain⟨_,_,rfl,⟨g4⟩,h5⟩:=h4.cons
 obtain⟨_,_,rfl,⟨g5⟩,h6⟩:=h5.cons
 obtain⟨_,_,rfl,⟨g6⟩,h7⟩:=h6.cons
 obtain⟨_,_,rfl,⟨g7⟩,h8⟩:=h7.cons
 obtain⟨_,_,rfl,⟨g8⟩,h9⟩:=h8.cons
 obtain⟨_,_,rfl,⟨g9⟩,h10⟩:=h9.cons
 obtain rfl:=h10.nil
 exact⟨⟨_,_,_,_,_,_,_,_,_,_⟩,⟨in64_of g1,in64_of g2,in64_of g3,in64_of g4,in64_of g5,in64_of g6,in64_of g7,in64_of g8,in64_of g9⟩,rfl⟩
theorem dec {d0 d1:List DC}(s0:TSoks [.sl [.str,.int .i64,.int .i64,.int .i64,.int .i64,.int .i64,.int .i64,.int .i64,.int .i64,.int .i64]] d0)(s1_0:TSoks [.str] d1) :
  K.pa4_0.dec [(false,d0),(false,d1)] (K.Fn4_0 K.f4_0 _ some)=some (some [rB true]):=by
 obtain⟨_,_,rfl,t0,s1⟩:=s0.cons
 obtain rfl:=s1.nil
 obtain⟨r0,rfl,hl,q0⟩:=t0.rows
 obtain⟨l,hP,rfl⟩:=rows_ofP ofRd r0 q0
 obtain⟨_,_,rfl,⟨_⟩,s1_1⟩:=s1_0.cons
 obtain rfl:=s1_1.nil
 show some (K.f4_0 _ _ _ _)=_
 rw [K.law4 hP];rfl
set_option maxRecDepth 100000 in
theorem walk (v0 v1:Value)(w:World)(a0:Arg Tryz.prog w 35 [.sl [.str,.int .i64,.int .i64,.int .i64,.int .i64,.int .i64,.int .i64,.int .i64,.int .i64,.int .i64]] v0)(a1:Arg Tryz.prog w 9 [.str] v1)(hl:Laid Tryz.prog w) :
  Calls Tryz.prog 4 #[v0,v1] w fun e w'=>e=.returned (.bool true)/\Below w.heap.size w w':=by
 obtain⟨d0,s0,r0⟩:=a0
 obtain⟨d1,s1,r1⟩:=a1
 have hd:=dec s0 s1
 rw [ag35] at r0
 rw [ag9] at r1
 refine law_calls (ds:=[(false,d0),(false,d1)]) K.io4_0 (show 2<=K.nt4 by decide) hd ?_ hl
 refine⟨rfl,fun i d v hd hv=>?_⟩
 match i with
 | 0=>simp at hd hv;subst hd;subst hv;exact r0
 | 1=>simp at hd hv;subst hd;subst hv;exact r1
 | i+2=>simp at hd
theorem star : "*" ++ "errors.errorString" = "*errors.errorString" := by decide
theorem rowErr (u : TypeId) (h : Tryz.prog.typeName? 3 u = some "*errors.errorString") : u = 452 :=
 typeName_ptr_named (nm := "errors.errorString") (by rw [star]; kernel_rfl) (by kernel_rfl) (by decide) u (by rw [star]; exact h)
set_option maxRecDepth 100000 in
theorem laidAll {w:World}(hL0:laidMetH Tryz.prog Rows.meterTextsRow.laid w)(hsh:w.ShapedOpen Tryz.prog):Laid Tryz.prog w:=by
 rw [MakeChecks.laidMetH_plain _ _ _ (by kernel_rfl)] at hL0
 have hL : laidMet Tryz.prog [("math/bits.deBruijn32tab", Rows.laid_math_bits_deBruijn32tab), ("math/bits.deBruijn64tab", Rows.laid_math_bits_deBruijn64tab), ("internal/strconv.uint64pow10", Lib.tabData .u64 Lib.pow10Tab), ("unicode/utf8.acceptRanges", Rows.laid_unicode_utf8_acceptRanges), ("strconv.ErrRange", Rows.laid_strconv_ErrRange), ("strconv.ErrSyntax", Rows.laid_strconv_ErrSyntax), ("unicode/utf8.first", Rows.laid_unicode_utf8_first)] w := hL0
 have hT:=Lib.tabIs_of_head (g:=3) (t:=448) (e:=370) (n:=20) (by kernel_rfl) (by kernel_rfl) Tryz.underlying448 Tryz.underlying370 (by kernel_rfl) (by kernel_rfl) hL.tail.tail
 obtain⟨a0,s0,h0,_⟩:=laid_sentinel (g:=2) (ti:=153) (tp:=452) (te:=454) (ts:=9) hL.tail.tail.tail.tail (by kernel_rfl) (by kernel_rfl) Tryz.underlying153 rowErr Tryz.underlying452 Tryz.underlying454 rfl rfl Tryz.underlying9 (by kernel_rfl) (by kernel_rfl)
 obtain⟨a1,s1,h1,_⟩:=laid_sentinel (g:=1) (ti:=153) (tp:=452) (te:=454) (ts:=9) hL.tail.tail.tail.tail.tail (by kernel_rfl) (by kernel_rfl) Tryz.underlying153 rowErr Tryz.underlying452 Tryz.underlying454 rfl rfl Tryz.underlying9 (by kernel_rfl) (by kernel_rfl)
 refine laid_of hT (fun b hb=>?_) ⟨_,_,h1⟩ ⟨_,_,h0⟩
 have : Tryz.prog.globalNamed "internal/bytealg.MaxLen" = some 4 := by kernel_rfl
 obtain rfl:=Option.some.inj (this.symm.trans hb)
 exact cell_of_shapedOpen_int (zero:=#[.int .i64 0]) (t:=3) hsh (of_decide_eq_true (by kernel_rfl)) (by kernel_rfl) rfl (by kernel_rfl) (by kernel_rfl) Tryz.underlying3
set_option maxRecDepth 100000 in
theorem lifted (os:Os)(started:os.Started)(H:Type)(enc:TypeId × Value->H) :
  ReturnsInHanded {} Tryz.checked os 4 .any (fun w args=>(Rows.meterTextsSpec.pre enc Tryz.prog Tryz.f4 Rows.meterTextsRow.domain false w args/\laidMetH Tryz.prog Rows.meterTextsRow.laid w)/\sizedMet enc Tryz.prog Tryz.f4 (OpenSpec.ofChange Rows.meterTextsSpec) false w args) (Rows.meterTextsSpec.post enc Tryz.prog Tryz.f4 false true false false):=by
 refine handed_shaped (C:=Tryz.checked) (X:=fun w _=>laidMetH Tryz.prog Rows.meterTextsRow.laid w) (fun _ _ _ hh h=>h.of_heap hh) own started (by kernel_rfl) Tryz.func4
  (ChangeSpec.witness_shaped (enc:=enc) (C:=Tryz.checked) (os:=os) (X:=fun w _=>laidMetH Tryz.prog Rows.meterTextsRow.laid w) false (World.laidAll Tryz.prog os Rows.meterTextsRow.laid) #[.slice none 0 0,.string ⟨#[]⟩] 8 (World.laidAll_os _ _ _)
   (World.shaped_of_ZipB (by kernel_rfl) (by kernel_rfl)) (by kernel_rfl) (by kernel_rfl) (by kernel_rfl)
   (by rw [MakeChecks.laidMetH_plain _ _ _ (by kernel_rfl)];exact laidMet_laidAll _ (by kernel_rfl) (by kernel_rfl))) ?_
 intro W base args ds gs before hval0 hW hcnd hL hsh _
 have hval:∀ (j:Nat) t v,Tryz.f4.params[j]?=some t->args[j]?=some v->Value.okWide Tryz.prog W .any base t v:=hval0
 have hW':=hW
 obtain⟨p,q,hA0,hV,rfl,hfz,hnd⟩:=hW
 have hA:DataW.TrodAll enc Tryz.prog W 0 (fun _=>true) true Tryz.f4.params.toList args.toList ds p:=hA0
 rw [Tryz.params4] at hA hval
 obtain⟨v0,vs0,d0,ds0,p0,q0,hargs,rfl,rfl,h0,r0⟩:=trodAll_cons hA
 obtain⟨v1,vs1,d1,ds1,p1,q1,rfl,rfl,rfl,h1,r1⟩:=trodAll_cons r0
 obtain⟨rfl,rfl,rfl⟩:=trodAll_nil r1
 obtain rfl:args=#[v0,v1]:=by cases args;simp_all
 obtain⟨rfl,rfl⟩:=trodVars_none hV
 have lt0:∀ x ∈ p0,x.block < W.heap.size:=by obtain⟨m,hm⟩:=h0;exact DataW.trod_lt m _ _ _ hm
 have lt1:∀ x ∈ p1,x.block < W.heap.size:=by obtain⟨m,hm⟩:=h1;exact DataW.trod_lt m _ _ _ hm
 have k0:=arg_ok (hval 0 35 v0 rfl rfl) h0 ts35
 have k1:=arg_ok (hval 1 9 v1 rfl rfl) h1 ts9
 clear hA0 hval0
 refine (walk v0 v1 W k0 k1 (laidAll hL hsh)).mono fun e W' ⟨he,bel⟩=>?_
 subst he
 exact⟨_,rfl,_,_,_,[],_,[],hW',trodAll_mk1 (shut_bool Tryz.underlying4 _),(trodAll_cons_mk (Below.trod laidOut (by kernel_rfl) (of_decide_eq_true (by kernel_rfl)) h0 bel lt0) (trodAll_cons_mk (Below.trod laidOut (by kernel_rfl) (of_decide_eq_true (by kernel_rfl)) h1 bel lt1) trodAll_mk0)),rfl,bel.frame _,fun h=>by cases h⟩
theorem over:Rows.meterTextsRow.holds Tryz.pinned (OpenSpec.ofChange Rows.meterTextsSpec):=
 OpenClaim.holds_of_wide 4 Tryz.f4 rfl rfl rfl rfl rfl rfl rfl ⟨rfl,rfl,rfl,rfl,rfl⟩ rfl rfl rfl rfl rfl named Tryz.func4 closed inst wrapper
  (fun os started H enc _=>lifted os started H enc)
theorem meterTexts_holds:Rows.MeterTextsSaid:=over
end Go.Proofs.YtnhkllkecbmchaaGreatDoor.Mt4
