/- MeterTexts: the law. -/
import Derived.Test.YtnhkllkecbmchaaGreatDoorTX7
import Derived.Test.YtnhkllkecbmchaaGreatDoorXB
namespace Go.AM.K
open Go.LT Go.Proofs
set_option linter.unusedVariables false
set_option linter.unusedSimpArgs false
variable {α:Type}
theorem eqR (r:Rdg):((r.s == r.s) && ((r.a == r.a) && (((r.b == r.b) && ((r.c == r.c) && true)) && (((r.d == r.d) && ((r.e == r.e) && true)) && (((r.f == r.f) && ((r.g == r.g) && true)) && (((r.h == r.h) && ((r.i == r.i) && true)) && true))))))=true:=by
 have hs:(r.s == r.s)=true:=by
  show (r.s.data == r.s.data)=true
  simp
 rw [hs]
 simp only [beq_self_eq_true,Bool.and_self]
theorem eq0:(((⟨#[]⟩:ByteArray) == (⟨#[]⟩:ByteArray)) && (((0:Int) == 0) && ((((0:Int) == 0) && (((0:Int) == 0) && true)) && ((((0:Int) == 0) && (((0:Int) == 0) && true)) && ((((0:Int) == 0) && (((0:Int) == 0) && true)) && ((((0:Int) == 0) && (((0:Int) == 0) && true)) && true))))))=true:=eqR ⟨⟨#[]⟩,0,0,0,0,0,0,0,0,0⟩
theorem R4_eq {L:List Rdg}(hL:L.length<=1000)(hin:∀ r ∈ L,r.In){k1:Bool->Option α}{k2:Int->Bool->Option α}{q:Option α}(h1t:k1 true=q)(h2:(∀ r ∈ L,r.s.size<=30)->k2 L.length false=q) :
  ∀ (l:List Rdg) (n i:Nat),L.drop i=l->l.length < n->i<=L.length->(∀ r ∈ L.take i,r.s.size<=30)->R4_0_1 α (L.map Rdg.row) k1 k2 n i=q
 | _,0,_,_,hn,_,_=>absurd hn (Nat.not_lt_zero _)
 | [],n+1,i,h,_,hle,ht=>by
  have hi:=List.drop_eq_nil_iff.1 h
  have hlen:(decide ((i:Int) < ((List.length (L.map Rdg.row):Nat):Int)))=false:=by rw [List.length_map];exact decide_eq_false (by omega)
  show cK (decide ((i:Int) < ((List.length (L.map Rdg.row):Nat):Int))) _ (k2 i (decide ((i:Int) < ((List.length (L.map Rdg.row):Nat):Int))))=_
  rw [hlen,cK_false]
  rw [List.take_of_length_le hi] at ht
  have hh:i=L.length:=by omega
  subst hh
  exact h2 ht
 | r::l,n+1,i,h,hn,hle,ht=>by
  obtain⟨g1,g2,g3⟩:=drop_at h
  have hr:=hin r (List.mem_of_getElem? g1)
  have hw:w64 ((i:Int)+1)=((i+1:Nat):Int):=by rw [w64_in (by omega) (by omega)];omega
  have ih:=fun hs=>R4_eq hL hin h1t h2 l n (i+1) g2 (by simp at hn;omega) (by omega) hs
  show cK (decide ((i:Int) < ((List.length (L.map Rdg.row):Nat):Int))) (rowK (L.map Rdg.row) i shR fun s _ _ _ _ _ _ _ _ _=>cK (decide (30 < ((ByteArray.size s:Nat):Int))) (k1 true) (rowK (L.map Rdg.row) i shR _)) _=_
  rw [List.length_map,decide_eq_true (by omega),cK_true,rowR g1]
  show cK (decide (30 < ((ByteArray.size r.s:Nat):Int))) (k1 true) (rowK (L.map Rdg.row) i shR _)=_
  by_cases h30:30 < r.s.size
  ·rw [decide_eq_true (by omega),cK_true,h1t]
  rw [decide_eq_false (by omega),cK_false,rowR g1]
  have ih:=ih (by
   rw [List.take_add_one,g1]
   intro x hx
   rcases List.mem_append.1 hx with hx | hx
   ·exact ht x hx
   ·simp at hx;rw [hx];omega)
  show f16_0 α r.s r.a r.b r.c r.d r.e r.f r.g r.h r.i (fun c=>rowK (L.map Rdg.row) i shR _)=_
  rw [f16_eq (by omega) hr,rowR g1]
  show f17_0 α r.s r.a r.b r.c r.d r.e r.f r.g r.h r.i _=_
  rw [f17_eq (by omega) hr,toList_eq,decide_eq_true rfl,Bool.not_true,cK_false,rowR g1]
  show f18_0 α r.s r.a r.b r.c r.d r.e r.f r.g r.h r.i _=_
  rw [f18_eq,hw,ih]
  show cK (r.err == 0) (f19_0 α (mkB r.txt) _) q=q
  by_cases he:r.err=0
  ·rw [he,beq_self_eq_true,cK_true,f19_back he]
   show cK ((0:Int) != 0) _ (rowK (L.map Rdg.row) i shR _)=_
   rw [bne_self_eq_false,cK_false,rowR g1]
   show cK (!((r.s == r.s) && ((r.a == r.a) && (((r.b == r.b) && ((r.c == r.c) && true)) && (((r.d == r.d) && ((r.e == r.e) && true)) && (((r.f == r.f) && ((r.g == r.g) && true)) && (((r.h == r.h) && ((r.i == r.i) && true)) && true))))))) _ q=_
   rw [eqR,Bool.not_true,cK_false]
  ·rw [show (r.err == 0)=false from beq_eq_false_iff_ne.2 he,cK_false]
theorem told_none {K:Tk (Int->Option α)}:told K none=bad K 4:=rfl
theorem bad_def {K:Tk (Int->Option α)}{e:Int}:bad K e=K ⟨#[]⟩ 0 0 0 0 0 0 0 0 0 e:=rfl
theorem twice {t:ByteArray}(ht:t.size < 100000){x y q:Option α}:f19_0 α t (fun r s t' w z A B C D F G=>f20_0 α t (fun H I J L M N O P Q R T=>cK (G != T) x
  (cK (!((r == H) && ((s == I) && (((t' == J) && ((w == L) && true)) && (((z == M) && ((A == N) && true)) && (((B == O) && ((C == P) && true)) && (((D == Q) && ((F == R) && true)) && true))))))) y q)))=q:=by
 rw [f19_eq ht]
 have b:∀ e:Int,cK (e != e) x (cK (!(((⟨#[]⟩:ByteArray) == (⟨#[]⟩:ByteArray)) && (((0:Int) == 0) && ((((0:Int) == 0) && (((0:Int) == 0) && true)) && ((((0:Int) == 0) && (((0:Int) == 0) && true)) && ((((0:Int) == 0) && (((0:Int) == 0) && true)) && ((((0:Int) == 0) && (((0:Int) == 0) && true)) && true))))))) y q)=q:=fun e=>by
  rw [bne_self_eq_false,cK_false,eq0,Bool.not_true,cK_false]
 cases ho:rdn (cutBA 32 t) with
 | none=>
  simp only [told_none,bad_def]
  rw [read_same ht,f19_eq ht,ho]
  exact b 4
 | some r=>
  rw [told_some]
  by_cases he:r.err=0
  ·rw [if_neg (fun hh=>hh he)]
   simp only [Rdg.ap]
   rw [read_same ht,f19_eq ht,ho,told_some,if_neg (fun hh=>hh he)]
   show cK ((0:Int) != 0) x (cK (!((r.s == r.s) && ((r.a == r.a) && (((r.b == r.b) && ((r.c == r.c) && true)) && (((r.d == r.d) && ((r.e == r.e) && true)) && (((r.f == r.f) && ((r.g == r.g) && true)) && (((r.h == r.h) && ((r.i == r.i) && true)) && true))))))) y q)=q
   rw [bne_self_eq_false,cK_false,eqR,Bool.not_true,cK_false]
  ·rw [if_pos he]
   simp only [bad_def]
   rw [read_same ht,f19_eq ht,ho,told_some,if_pos he]
   exact b r.err
theorem go_len:∀ (ls:List (List UInt8)) (acc:List Rdg),(parseGo acc ls).1.length<=20
 | [],_=>by simp [parseGo]
 | [last],acc=>by
  rw [go_one]
  split
  ·unfold finP
   split
   ·simp
   ·simp;omega
  ·simp
 | x::y::l,acc=>by
  rw [go_more]
  split
  ·simp
  ·split
   ·simp
   ·split
    ·exact go_len (y::l) _
    ·simp
theorem parse_same {t:ByteArray}(ht:t.size < 80000){k:Bool->Option α}{x y:Option α}:f23_0 α t (fun W X Y=>f26_0 α t (fun Z a0 a1=>cK (Y == a1) (cK (X == a0) (f25_0 α W Z (fun a2=>k a2)) x) y))=k true:=by
 rw [f23_eq ht]
 by_cases h:60000 < t.size
 ·rw [if_pos h]
  simp only [f26_eq ht,if_pos h,beq_self_eq_true,cK_true]
  exact f25_refl (l:=[]) (by simp)
 ·rw [if_neg h]
  show f26_0 α t _=_
  rw [f26_eq ht,if_neg h]
  unfold outP
  simp only [beq_self_eq_true,cK_true]
  exact f25_refl (Nat.le_trans (go_len _ _) (by decide))
theorem J4_2_eq {l:List Rdg}(hl:l.length<=20)(h:Good l){k:Bool->Option α}:J4_0_2 α (l.map Rdg.row) (mkB (prT l 0)) 0 0 0 (l.map Rdg.row) k=k false:=by
 show cK ((0:Int) != 0) (k true) (f24_0 α (l.map Rdg.row) fun j=>cK (!((mkB (prT l 0)).toList == j.toList)) (k true) (cK ((0:Int) != 0) (k true) (cK ((0:Int) != 0) (k true) (f25_0 α (l.map Rdg.row) (l.map Rdg.row) fun b=>k (!b)))))=_
 rw [bne_self_eq_false,cK_false,f24_eq (by omega) h,toList_eq,decide_eq_true rfl,Bool.not_true,cK_false,cK_false,cK_false,f25_refl (by omega)]
 rfl
theorem printed {l:List Rdg}(hl:l.length<=1000)(h:Good l){k1:Option α}{k2 k3:Bool->Option α}{q:Option α}(h2:k2 false=q)(h3:k3 false=q) :
  f21_0 α (l.map Rdg.row) (fun U V=>J4_0_3 α (l.map Rdg.row) U V k1 k2 k3)=q:=by
 rw [f21_eq hl h]
 by_cases he:(if 20 < l.length then 8 else err1 l)=0
 ·rw [if_pos he]
  have h20:l.length<=20:=by
   by_cases h:20 < l.length
   ·rw [if_pos h] at he;exact absurd he (by decide)
   ·omega
  have he':err1 l=0:=by rwa [if_neg (by omega)] at he
  simp only [J4_0_3,J4_0_3g]
  rw [f22_eq hl,he,bne_self_eq_false,cK_false,f23_back h20 he',J4_2_eq h20 h,cK_false,h3]
 ·rw [if_neg he]
  simp only [J4_0_3,J4_0_3g]
  rw [f22_eq hl,cK_ne,if_pos he,bne_self_eq_false,cK_false,toList_eq,decide_eq_true rfl,Bool.not_true,cK_false,h2]
theorem gate {rows:Rows}{t:ByteArray}{k:Bool->Option α}{q:Option α}(ht:k true=q)(hf:rows.length<=22->t.size<=60050->k false=q):J4_0_0 α rows t k=q:=by
 simp only [J4_0_0,J4_0_0g]
 have A:rows.length<=22->k (decide (60050 < ((ByteArray.size t:Nat):Int)))=q:=fun h=>by
  by_cases hz:60050 < t.size
  ·rw [decide_eq_true (by omega),ht]
  ·rw [decide_eq_false (by omega),hf h (by omega)]
 have B:rows.length<=22->cK (decide (600 < ((ByteArray.size t:Nat):Int))) (cK (decide (((ByteArray.size t:Nat):Int)<=60000)) (k true) (k (decide (60050 < ((ByteArray.size t:Nat):Int))))) (k (decide (60050 < ((ByteArray.size t:Nat):Int))))=q:=fun h=>by
  rw [A h,ht]
  cases decide (600 < ((ByteArray.size t:Nat):Int)) <;> cases decide (((ByteArray.size t:Nat):Int)<=60000) <;> rfl
 have C:cK (decide (22 < ((List.length rows:Nat):Int))) (k true) (cK (decide (600 < ((ByteArray.size t:Nat):Int))) (cK (decide (((ByteArray.size t:Nat):Int)<=60000)) (k true) (k (decide (60050 < ((ByteArray.size t:Nat):Int))))) (k (decide (60050 < ((ByteArray.size t:Nat):Int)))))=q:=by
  by_cases h:22 < rows.length
  ·rw [decide_eq_true (by omega),cK_true,ht]
  ·rw [decide_eq_false (by omega),cK_false,B (by omega)]
 rw [C,ht]
 cases decide (6 < ((List.length rows:Nat):Int)) <;> cases decide (((List.length rows:Nat):Int)<=20) <;> rfl
theorem law4 {l:List Rdg}(hin:∀ r ∈ l,r.In){t:ByteArray}{k:Bool->Option α}:f4_0 α (l.map Rdg.row) t k=k true:=by
 have hf:=fuel_ge
 show J4_0_0 α (l.map Rdg.row) t (fun p=>cK p (k true) (R4_0_1 α (l.map Rdg.row) (fun q=>k q) _ fuel 0))=_
 refine gate (by rw [cK_true]) fun h1 h2=>?_
 rw [cK_false]
 rw [List.length_map] at h1
 refine R4_eq (by omega) hin rfl ?_ l fuel 0 rfl (by omega) (by omega) (by simp)
 intro hs
 have hg:Good l:=fun r hr=>⟨hs r hr,hin r hr⟩
 refine (twice (by omega)).trans ?_
 refine (gK_of ?_).trans ?_
 ·unfold apOk
  refine decide_eq_true ⟨?_,?_,?_⟩
  ·unfold allLen
   rw [List.all_eq_true]
   intro x hx
   obtain⟨r,_,rfl⟩:=List.mem_map.1 hx
   rfl
  ·simp;omega
  ·simp;omega
 ·exact printed (by omega) hg (parse_same (by omega)) (parse_same (by omega))
end Go.AM.K
