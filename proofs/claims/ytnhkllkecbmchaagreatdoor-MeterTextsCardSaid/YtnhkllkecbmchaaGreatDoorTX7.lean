/- Readings: Parse of the document; what is printed is read again. -/
import Derived.Test.YtnhkllkecbmchaaGreatDoorTX6
namespace Go.AM.K
open Go.LT Go.Proofs
set_option linter.unusedVariables false
set_option linter.unusedSimpArgs false
variable {α:Type}
theorem err_ne4 {r:Rdg}:r.err ≠ 4:=by
 show rdE r.s r.a r.b r.c r.d r.e r.f r.g r.h r.i ≠ 4
 have h1:plE r.s r.a r.b r.c ≠ 4:=by
  unfold plE
  split
  ·split <;> decide
  ·decide
 have h2:∀ lo hi,rgE 1048576 lo hi ≠ 4:=fun lo hi=>by
  unfold rgE
  split
  ·split <;> decide
  ·decide
 unfold rdE
 split
 ·exact h1
 ·unfold fst3
  split
  ·exact h2 _ _
  ·split <;> exact h2 _ _
theorem go_more {acc:List Rdg}{x y:List UInt8}{l:List (List UInt8)}:parseGo acc (x::y::l)=match rd11 (cutBA 32 (mkB x)) with
  | none=>([],(acc.length:Int)+1,4)
  | some p=>if p.1.err ≠ 0 then ([],(acc.length:Int)+1,p.1.err) else if chk ((acc.length:Int)+1) p.1.txt=p.2 then parseGo (acc++[p.1]) (y::l) else ([],(acc.length:Int)+1,21):=rfl
theorem told_cases {K:Tk (Int->Option α)}{o:Option Rdg}{q:Option α}(h:∀ s a b c d e f g h i j,K s a b c d e f g h i j=q):told K o=q:=by
 unfold told
 split
 ·exact h _ _ _ _ _ _ _ _ _ _ _
 ·split <;> exact h _ _ _ _ _ _ _ _ _ _ _
theorem told_some {K:Tk (Int->Option α)}{r:Rdg}:told K (some r)=if r.err ≠ 0 then bad K r.err else r.ap K 0:=rfl
theorem R26_eq {L:List (List UInt8)}(hL:L.length < 90000)(hx:∀ x ∈ L,x.length < 90000){k:Rows->Int->Int->Option α}{k2:Int->Bool->Rows->Option α}{k3:Int->Bool->Rows->Option α}
  (h2:∀ i b (acc:List Rdg),k2 i b (acc.map Rdg.row)=outP k (finP acc)) :
  ∀ (ls:List (List UInt8)) (n:Nat) (acc:List Rdg),ls ≠ []->L.drop acc.length=ls->ls.length < n ->
  R26_0_0 α (strRows (L.map mkB)) (fun h i=>k ([]:Rows) h i) k2 k3 n (acc.length:Int) (acc.map Rdg.row)=outP k (parseGo acc ls)
 | _,0,_,_,_,hn=>absurd hn (Nat.not_lt_zero _)
 | [],_+1,_,hne,_,_=>absurd rfl hne
 | [last],n+1,acc,_,hd,_=>by
  obtain⟨g1,g2,g3⟩:=drop_at hd
  have hlen:L.length=acc.length+1:=by have:=congrArg List.length hd;simp at this;omega
  have hl:(List.length (strRows (L.map mkB)):Nat)=acc.length+1:=by rw [strRows_len,List.length_map,hlen]
  have hi:acc.length < (L.map mkB).length:=by rw [List.length_map];exact g3
  have hg:(L.map mkB)[acc.length]'hi=mkB last:=by
   rw [List.getElem_map]
   rw [(List.getElem?_eq_some_iff.1 g1).2]
  show cK (decide ((acc.length:Int) < ((List.length (strRows (L.map mkB)):Nat):Int))) (cK (((acc.length:Nat):Int) == (w64 (((List.length (strRows (L.map mkB)):Nat):Int) - 1))) (ixK (strRows (L.map mkB)) (acc.length:Int) 1 (ldK (strRows (L.map mkB)) (Int.toNat (acc.length:Int)) 0 [.str] fun s=>cK (!(s.toList == (⟨#[]⟩:ByteArray).toList)) (k ([]:Rows) (w64 ((acc.length:Int)+1)) 4) (k2 (acc.length:Int) (!(s.toList == (⟨#[]⟩:ByteArray).toList)) (acc.map Rdg.row)))) _) _=_
  have hw1:w64 (((acc.length+1:Nat):Int) - 1)=(acc.length:Int):=by rw [w64_in (by omega) (by omega)];omega
  have hw:w64 ((acc.length:Int)+1)=(acc.length:Int)+1:=w64_in (by omega) (by omega)
  rw [hl,hw1,hw,beq_self_eq_true,decide_eq_true (by omega),cK_true,cK_true,ix_str hi,show Int.toNat (acc.length:Int)=acc.length by omega,ld_str hi,hg,go_one,toList_eq,data_mkB]
  by_cases h0:last=[]
  ·rw [if_pos h0,h0]
   exact h2 _ _ _
  ·rw [if_neg h0]
   rw [show decide (last=(⟨#[]⟩:ByteArray).data.toList)=false from decide_eq_false (by simpa using h0)]
   rfl
 | x::y::l,n+1,acc,_,hd,hn=>by
  obtain⟨g1,g2,g3⟩:=drop_at hd
  have hlen:L.length=acc.length+(l.length+2):=by have:=congrArg List.length hd;simp at this;omega
  have hl:(List.length (strRows (L.map mkB)):Nat)=acc.length+(l.length+2):=by rw [strRows_len,List.length_map,hlen]
  have hi:acc.length < (L.map mkB).length:=by rw [List.length_map];exact g3
  have hg:(L.map mkB)[acc.length]'hi=mkB x:=by
   rw [List.getElem_map]
   rw [(List.getElem?_eq_some_iff.1 g1).2]
  have hsz:=hx x (List.mem_of_getElem? g1)
  have hw:w64 ((acc.length:Int)+1)=(acc.length:Int)+1:=w64_in (by omega) (by omega)
  have ih:=fun a h=>R26_eq hL hx (k:=k) (k3:=k3) h2 (y::l) n a (by simp) h (by simp at hn ⊢;omega)
  show cK (decide ((acc.length:Int) < ((List.length (strRows (L.map mkB)):Nat):Int))) (cK (((acc.length:Nat):Int) == (w64 (((List.length (strRows (L.map mkB)):Nat):Int) - 1))) _ (ixK (strRows (L.map mkB)) (acc.length:Int) 1 (ldK (strRows (L.map mkB)) (Int.toNat (acc.length:Int)) 0 [.str] fun C=>f67_0 α C 32 _))) _=_
  have hw1:w64 (((acc.length+(l.length+2):Nat):Int) - 1)=((acc.length+l.length+1:Nat):Int):=by rw [w64_in (by omega) (by omega)];omega
  rw [hl,hw1,show (((acc.length:Nat):Int) == ((acc.length+l.length+1:Nat):Int))=false by rw [beq_eq_false_iff_ne];omega,decide_eq_true (by omega),cK_true,cK_false,ix_str hi,show Int.toNat (acc.length:Int)=acc.length by omega,ld_str hi,hg]
  rw [f67_eq (e:=32) (c:=32) rfl (by rw [size_mkB];omega),go_more]
  have hws:=cut_small (c:=32) (t:=mkB x) (by rw [size_mkB];omega)
  have hnm:∀ z ∈ cutBA 32 (mkB x),z.size < 100000:=hws
  generalize cutBA 32 (mkB x)=W at hws hnm ⊢
  by_cases h11:W.length=11
  ·match W,h11 with
   | [x0,x1,x2,x3,x4,x5,x6,x7,x8,x9,x10],_=>
    have hz:x10.size < 100000:=hws x10 (by simp)
    have hz9:∀ z ∈ [x0,x1,x2,x3,x4,x5,x6,x7,x8,x9],z.size < 100000:=fun z hz=>hws z (by
     simp only [List.mem_cons,List.not_mem_nil,or_false] at hz ⊢
     rcases hz with h | h | h | h | h | h | h | h | h | h <;> simp [h])
    have hr:rd11 [x0,x1,x2,x3,x4,x5,x6,x7,x8,x9,x10]=(rd [x0,x1,x2,x3,x4,x5,x6,x7,x8,x9]).bind fun r=>(num? x10.data.toList).map fun n=>(r,n):=rfl
    generalize hR:strRows [x0,x1,x2,x3,x4,x5,x6,x7,x8,x9,x10]=R
    have hlen:(((List.length R:Nat):Int) != 11)=false:=by subst hR;rfl
    have hix:∀ X:Option α,ixK R 10 1 X=X:=fun X=>by subst hR;rfl
    have hld:∀ F:ByteArray->Option α,ldK R 10 0 [.str] F=F x10:=fun F=>by subst hR;rfl
    have hgk:∀ X:Option α,gK (decide ((0:Int)<=0/\0<=(10:Int)/\(10:Int)<=((List.length R:Nat):Int))) X=X:=fun X=>by subst hR;rfl
    have hdr:List.drop 0 (List.take 10 R)=strRows [x0,x1,x2,x3,x4,x5,x6,x7,x8,x9]:=by subst hR;rfl
    rw [hlen,cK_false,hix,hld,f68_eq hz,hw]
    cases e10:num? x10.data.toList with
    | none=>
     have:rd11 [x0,x1,x2,x3,x4,x5,x6,x7,x8,x9,x10]=none:=by rw [hr,e10];cases rd [x0,x1,x2,x3,x4,x5,x6,x7,x8,x9] <;> rfl
     rw [this]
     simp only []
     rw [hgk,hdr,f83_eq hz9]
     exact told_cases fun _ _ _ _ _ _ _ _ _ _ _=>rfl
    | some v=>
     simp only []
     rw [hgk,hdr,f83_eq hz9]
     cases er:rd [x0,x1,x2,x3,x4,x5,x6,x7,x8,x9] with
     | none=>
      rw [hr,er]
      rfl
     | some r=>
      have h11':rd11 [x0,x1,x2,x3,x4,x5,x6,x7,x8,x9,x10]=some (r,v):=by rw [hr,er,e10];rfl
      rw [h11',told_some]
      show _=outP k (if r.err ≠ 0 then ([],(acc.length:Int)+1,r.err) else if chk ((acc.length:Int)+1) r.txt=v then parseGo (acc++[r]) (y::l) else ([],(acc.length:Int)+1,21))
      by_cases he:r.err=0
      ·rw [if_neg (fun hh=>hh he),if_neg (fun hh=>hh he)]
       have ok:=Rdg.ok_of he
       have htl:=Rdg.txt_len (B:=21) (by omega) (by have:=ok.size;omega) ok.inn
       show f17_0 α r.s r.a r.b r.c r.d r.e r.f r.g r.h r.i _=_
       rw [f17_eq (by have:=ok.size;omega) ok.inn,f89_eq (by rw [size_mkB];omega) (by omega) (by omega),data_mkB,cK_bne]
       by_cases hc:chk ((acc.length:Int)+1) r.txt=v
       ·rw [if_pos hc.symm,if_pos hc]
        refine (gK_of (ap_rd (x:=r) (by omega))).trans ?_
        have:=ih (acc++[r]) (by rw [List.length_append];exact g2)
        rw [List.map_append,List.length_append] at this
        exact this
       ·rw [if_neg (fun hh=>hc hh.symm),if_neg hc];rfl
      ·rw [if_pos he,if_pos he]
       show cK (!true) (k ([]:Rows) ((acc.length:Int)+1) 4) (cK (r.err == 4) (k ([]:Rows) ((acc.length:Int)+1) 4) (cK (r.err != 0) (k ([]:Rows) ((acc.length:Int)+1) r.err) _))=_
       rw [Bool.not_true,cK_false,show (r.err == 4)=false from beq_eq_false_iff_ne.2 err_ne4,cK_false,cK_ne,if_pos he]
       rfl
  ·rw [rd11_len h11]
   show cK (((List.length (strRows W):Nat):Int) != 11) (k ([]:Rows) (w64 ((acc.length:Int)+1)) 4) _=_
   rw [strRows_len,show (((W.length:Nat):Int) != 11)=true by rw [bne_iff_ne];omega,cK_true,hw]
   rfl
theorem cutBA_map (c:UInt8)(s:ByteArray):cutBA c s=(cutL c s.data.toList).map mkB:=rfl
theorem f26_eq {t:ByteArray}(ht:t.size < 80000){k:Rows->Int->Int->Option α}:f26_0 α t k=if 60000 < t.size then k ([]:Rows) 0 8 else outP k (parseGo [] (cutL 10 t.data.toList)):=by
 have hf:=fuel_ge
 have hc:=cut_count 10 t.data.toList
 have hsz:t.data.toList.length=t.size:=by simp
 show cK (decide (60000 < ((ByteArray.size t:Nat):Int))) _ (f67_0 α t 10 _)=_
 by_cases h:60000 < t.size
 ·rw [decide_eq_true (by omega),if_pos h];rfl
 ·rw [decide_eq_false (by omega),if_neg h,cK_false,f67_eq (e:=10) (c:=10) rfl (by omega),cutBA_map]
  exact R26_eq (L:=cutL 10 t.data.toList) (by omega) (fun x hx=>by have:=cut_short 10 _ x hx;omega) (k:=k) (fun i b acc=>fin_eq) (cutL 10 t.data.toList) fuel [] (cutL_ne 10 _) rfl (by omega)
theorem line_dec:∀ l:List (List UInt8),decL xS (l.map fun x=>[Value.string ⟨x.toArray⟩])=some (l.map mkB)
 | []=>rfl
 | x::r=>by
  have h:xS.dx [Value.string ⟨x.toArray⟩]=some (mkB x):=rfl
  simp only [List.map_cons,decL,h,line_dec r]
  rfl
theorem f23_eq {t:ByteArray}(ht:t.size < 80000){k:Rows->Int->Int->Option α}:f23_0 α t k=if 60000 < t.size then k ([]:Rows) 0 8 else outP k (parseGo [] (cutL 10 t.data.toList)):=by
 have hc:=cut_count 10 t.data.toList
 have hsz:t.data.toList.length=t.size:=by simp
 show cK (decide (60000 < ((ByteArray.size t:Nat):Int))) _ (qK (qLines t) xS _)=_
 by_cases h:60000 < t.size
 ·rw [decide_eq_true (by omega),if_pos h];rfl
 ·rw [decide_eq_false (by omega),if_neg h,cK_false]
  have e:qLines t=some ((linesL t.data.toList).map fun x=>[Value.string ⟨x.toArray⟩]):=by
   unfold qLines
   rw [if_pos (by omega)];rfl
  rw [e]
  simp only [qK,listK,xK,line_dec]
  rw [lines_cut]
  exact V23_eq (cutL 10 t.data.toList) [] (cutL_ne 10 _) (fun x hx=>⟨cut_no 10 _ x hx,by have:=cut_short 10 _ x hx;omega⟩) (by simp;omega)
theorem cut_prT:∀ (l:List Rdg) (n:Nat),(∀ r ∈ l,r.Ok)->cutL 10 (prT l n)=(l.zipIdx n).map (fun p=>ln p.2 p.1)++[[]]
 | [],n,_=>rfl
 | r::l,n,h=>by
  have ok:=h r (by simp)
  have hn:∀ x ∈ ln n r,x ≠ 10:=by
   intro x hx
   unfold ln at hx
   have it:∀ m,∀ y ∈ Lib.itoa m,y ≠ 10:=fun m=>itoa_noc m 10 (by decide) (by decide)
   rcases List.mem_append.1 hx with hx | hx
   ·intro e
    subst e
    obtain⟨w,hw,hm⟩:=mem_cut 32 10 (by decide) _ hx
    rw [Rdg.txt,Rdg.ws,cut_join] at hw
    ·rcases List.mem_cons.1 hw with e | e
     ·subst e;exact (ok.nl 10 hm).1 rfl
     ·obtain⟨m,_,rfl⟩:=List.mem_map.1 e
      exact it m 10 hm rfl
    ·intro q hq
     rcases List.mem_cons.1 hq with e | e
     ·subst e;exact fun x hx=>(ok.nl x hx).2
     ·obtain⟨m,_,rfl⟩:=List.mem_map.1 e
      exact itoa_ns m
   ·rcases List.mem_cons.1 hx with e | hx
    ·rw [e];decide
    ·exact it _ x hx
  rw [prT,cutL_append 10 _ _ hn,cut_prT l (n+1) (fun x hx=>h x (List.mem_cons_of_mem _ hx))]
  simp
theorem err1_ok:∀ {l:List Rdg},err1 l=0->∀ r ∈ l,r.err=0
 | [],_,r,hr=>by cases hr
 | x::l,h,r,hr=>by
  unfold err1 at h
  split at h
  ·rename_i hx;exact absurd h hx
  ·rename_i hx
   rcases List.mem_cons.1 hr with e | hr
   ·rw [e];exact Decidable.not_not.1 hx
   ·exact err1_ok h r hr
theorem go_prT:∀ (l acc:List Rdg),(∀ r ∈ l,r.err=0)->acc.length+l.length<=20->parseGo acc ((l.zipIdx acc.length).map (fun p=>ln p.2 p.1)++[[]])=(acc++l,0,0)
 | [],acc,_,h=>by
  show (if ([]:List UInt8)=[] then finP acc else _)=_
  rw [if_pos rfl,List.append_nil]
  unfold finP
  rw [if_neg (by simp at h;omega)]
 | r::l,acc,h,hn=>by
  have he:=h r (by simp)
  have ok:=Rdg.ok_of he
  have hc:=chk_bd r.txt ((acc.length:Int)+1) (by omega) (by simp at hn;omega)
  have e1:rd11 (cutBA 32 (mkB (ln acc.length r)))=some (r,chk ((acc.length:Int)+1) r.txt):=rd11_txt ok (by omega) (by omega)
  have ih:=go_prT l (acc++[r]) (fun x hx=>h x (List.mem_cons_of_mem _ hx)) (by simp at hn ⊢;omega)
  rw [List.length_append,show [r].length=1 from rfl] at ih
  rw [List.zipIdx_cons,List.map_cons,List.cons_append]
  cases hl:(l.zipIdx (acc.length+1)).map (fun p=>ln p.2 p.1)++[[]] with
  | nil=>simp at hl
  | cons y q=>
   rw [hl] at ih
   rw [go_more,e1]
   show (if r.err ≠ 0 then _ else if chk ((acc.length:Int)+1) r.txt=chk ((acc.length:Int)+1) r.txt then parseGo (acc++[r]) (y::q) else _)=_
   rw [if_neg (fun hh=>hh he),if_pos rfl,ih]
   simp
theorem f23_back {l:List Rdg}(hl:l.length<=20)(he:err1 l=0){k:Rows->Int->Int->Option α}:f23_0 α (mkB (prT l 0)) k=k (l.map Rdg.row) 0 0:=by
 have hg:Good l:=fun r hr=>by
  have ok:=Rdg.ok_of (err1_ok he r hr)
  exact⟨by have:=ok.size;omega,ok.inn⟩
 have h1:=prT_len l 0 (by omega) hg
 rw [f23_eq (by rw [size_mkB];omega),if_neg (by rw [size_mkB];omega),data_mkB,cut_prT l 0 (fun r hr=>Rdg.ok_of (err1_ok he r hr))]
 have:=go_prT l [] (fun r hr=>err1_ok he r hr) (by simpa using hl)
 rw [List.length_nil] at this
 rw [this];rfl
end Go.AM.K
