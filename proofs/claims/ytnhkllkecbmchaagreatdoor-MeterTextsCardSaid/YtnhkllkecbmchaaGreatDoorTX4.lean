/- One reading, read and written by both. -/
import Derived.Test.YtnhkllkecbmchaaGreatDoorTX3
namespace Go.AM.K
open Go.LT
set_option linter.unusedVariables false
set_option linter.unusedSimpArgs false
variable {α:Type}
theorem cut_short (c:UInt8):∀ (l p:List UInt8),p ∈ cutL c l->p.length<=l.length
 | [],p,h=>by simp [cutL] at h;subst h;simp
 | b::l,p,h=>by
  unfold cutL at h
  split at h
  ·rcases List.mem_cons.1 h with h | h
   ·subst h;simp
   ·have:=cut_short c l p h;simp;omega
  ·split at h
   ·rename_i q t e
    rcases List.mem_cons.1 h with h | h
    ·subst h
     have:=cut_short c l q (by rw [e];simp)
     simp;omega
    ·have:=cut_short c l p (by rw [e];simp [h]);simp;omega
   ·rename_i e;exact absurd e (cutL_ne c l)
theorem cutBA_short {c:UInt8}{s x:ByteArray}(h:x ∈ cutBA c s):x.size<=s.size:=by
 unfold cutBA at h
 obtain⟨l,hl,rfl⟩:=List.mem_map.1 h
 have:=cut_short c _ l hl
 rw [size_mkB];simpa using this
theorem cut_count (c:UInt8):∀ (l:List UInt8),(cutL c l).length<=l.length+1
 | []=>by simp [cutL]
 | b::l=>by
  have:=cut_count c l
  unfold cutL
  split
  ·simp;omega
  ·split
   ·rename_i e;rw [e] at this;simp at this ⊢;omega
   ·simp
theorem cut_many (c:UInt8):∀ l:List UInt8,1 < (cutL c l).length ↔ c ∈ l
 | []=>by simp [cutL]
 | b::l=>by
  have ih:=cut_many c l
  have hn:=cutL_ne c l
  unfold cutL
  by_cases hb:b=c
  ·rw [if_pos hb]
   subst hb
   have:0 < (cutL b l).length:=List.length_pos_iff.2 hn
   simp;omega
  ·rw [if_neg hb]
   have:¬ c=b:=fun h=>hb h.symm
   cases e:cutL c l with
   | nil=>exact absurd e hn
   | cons q t=>rw [e] at ih;simpa [this] using ih
theorem mem_cut (c x:UInt8)(hx:x ≠ c):∀ l:List UInt8,x ∈ l->∃ w ∈ cutL c l,x ∈ w
 | [],h=>by cases h
 | b::l,h=>by
  have hn:=cutL_ne c l
  unfold cutL
  by_cases hb:b=c
  ·rw [if_pos hb]
   have h':x ∈ l:=by
    rcases List.mem_cons.1 h with h | h
    ·exact absurd (h.trans hb) hx
    ·exact h
   obtain⟨w,h1,h2⟩:=mem_cut c x hx l h'
   exact⟨w,List.mem_cons_of_mem _ h1,h2⟩
  ·rw [if_neg hb]
   cases e:cutL c l with
   | nil=>exact absurd e hn
   | cons q t=>
    rcases List.mem_cons.1 h with h | h
    ·exact⟨b::q,by simp,by simp [h]⟩
    ·obtain⟨w,h1,h2⟩:=mem_cut c x hx l h
     rw [e] at h1
     rcases List.mem_cons.1 h1 with h1 | h1
     ·exact⟨b::q,by simp,by rw [<- h1];simp [h2]⟩
     ·exact⟨w,List.mem_cons_of_mem _ h1,h2⟩
theorem cut_sub (c x:UInt8):∀ (l w:List UInt8),w ∈ cutL c l->x ∈ w->x ∈ l
 | [],w,h,hx=>by simp [cutL] at h;subst h;cases hx
 | b::l,w,h,hx=>by
  unfold cutL at h
  split at h
  ·rcases List.mem_cons.1 h with h | h
   ·subst h;cases hx
   ·exact List.mem_cons_of_mem _ (cut_sub c x l w h hx)
  ·split at h
   ·rename_i q t e
    rcases List.mem_cons.1 h with h | h
    ·subst h
     rcases List.mem_cons.1 hx with h | h
     ·simp [h]
     ·exact List.mem_cons_of_mem _ (cut_sub c x l q (by rw [e];simp) h)
    ·exact List.mem_cons_of_mem _ (cut_sub c x l w (by rw [e];simp [h]) hx)
   ·rename_i e;exact absurd e (cutL_ne c l)
theorem cutBA_ne (c:UInt8)(s:ByteArray):cutBA c s ≠ []:=by
 unfold cutBA
 intro h
 exact cutL_ne c _ (List.map_eq_nil_iff.1 h)
theorem num_nl {l:List UInt8}{v:Int}(h:num? l=some v):¬ 10 ∈ l:=by
 have dg:∀ r:List UInt8,r.all isDig=true->¬ 10 ∈ r:=fun r hr hm=>by
  have:=List.all_eq_true.1 hr 10 hm
  exact absurd this (by decide)
 cases l with
 | nil=>cases h
 | cons c r=>
  rw [num_cons] at h
  split at h
  ·rename_i h45
   split at h
   ·rename_i hc
    simp only [canon,Bool.and_eq_true] at hc
    intro hm
    rcases List.mem_cons.1 hm with hm | hm
    ·rw [h45] at hm;exact absurd hm (by decide)
    ·exact dg r hc.1.1.2 hm
   ·cases h
  ·split at h
   ·rename_i hc
    simp only [canon,Bool.and_eq_true] at hc
    exact dg _ hc.1.1.2
   ·cases h
theorem num_bd {l:List UInt8}{v:Int}(h:num? l=some v):-10000000 < v/\v < 10000000:=by
 have dg:∀ (r:List UInt8) (n:Nat),canon r n=true->nv 0 r < 10000000:=fun r n hc=>by
  simp only [canon,Bool.and_eq_true,decide_eq_true_eq] at hc
  have h1:=nv_lt r 0 hc.1.1.2
  have h2:10 ^ r.length<=10 ^ 7:=Nat.pow_le_pow_right (by decide) hc.2
  have h3:(10:Nat) ^ 7=10000000:=by decide
  omega
 cases l with
 | nil=>cases h
 | cons c r=>
  rw [num_cons] at h
  split at h
  ·split at h
   ·rename_i hc
    have:=dg _ _ hc
    injection h with h
    omega
   ·cases h
  ·split at h
   ·rename_i hc
    have:=dg _ _ hc
    injection h with h
    omega
   ·cases h
theorem rd_inv {ws:List ByteArray}{r:Rdg}(h:rd ws=some r):∃ y1 y2 y3 y4 y5 y6 y7 y8 y9:ByteArray,ws=[r.s,y1,y2,y3,y4,y5,y6,y7,y8,y9]/\num? y1.data.toList=some r.a/\num? y2.data.toList=some r.b/\num? y3.data.toList=some r.c/\num? y4.data.toList=some r.d/\num? y5.data.toList=some r.e/\num? y6.data.toList=some r.f/\num? y7.data.toList=some r.g/\num? y8.data.toList=some r.h/\num? y9.data.toList=some r.i:=by
 unfold rd at h
 split at h
 ·simp only [Option.bind_eq_some_iff] at h
  obtain⟨v1,e1,v2,e2,v3,e3,v4,e4,v5,e5,v6,e6,v7,e7,v8,e8,v9,e9,h⟩:=h
  injection h with h
  subst h
  exact⟨_,_,_,_,_,_,_,_,_,rfl,e1,e2,e3,e4,e5,e6,e7,e8,e9⟩
 ·cases h
theorem rd_in {ws:List ByteArray}{r:Rdg}(h:rd ws=some r):r.In:=by
 obtain⟨_,_,_,_,_,_,_,_,_,_,e1,e2,e3,e4,e5,e6,e7,e8,e9⟩:=rd_inv h
 have b1:=num_bd e1
 have b2:=num_bd e2
 have b3:=num_bd e3
 have b4:=num_bd e4
 have b5:=num_bd e5
 have b6:=num_bd e6
 have b7:=num_bd e7
 have b8:=num_bd e8
 have b9:=num_bd e9
 exact⟨⟨by omega,by omega⟩,⟨by omega,by omega⟩,⟨by omega,by omega⟩,⟨by omega,by omega⟩,⟨by omega,by omega⟩,⟨by omega,by omega⟩,⟨by omega,by omega⟩,⟨by omega,by omega⟩,⟨by omega,by omega⟩⟩
theorem rd_name {ws:List ByteArray}{r:Rdg}(h:rd ws=some r):r.s ∈ ws:=by
 obtain⟨_,_,_,_,_,_,_,_,_,e,_⟩:=rd_inv h
 rw [e];simp
theorem f62_eq {t:ByteArray}(ht:t.size < 100000){k:Rows->Option α}:f62_0 α t (⟨#[32]⟩:ByteArray) k=k (strRows (cutBA 32 t)):=by
 show fSplit α _ _ k=_
 unfold fSplit
 rw [if_pos ⟨by omega,by decide⟩,split_cut]
theorem cut_small {c:UInt8}{t:ByteArray}(ht:t.size < 100000):∀ x ∈ cutBA c t,x.size < 100000:=fun x hx=>by
 have:=cutBA_short hx
 omega
theorem rdn_rd {ws:List ByteArray}{r:Rdg}(h:rdn ws=some r):rd ws=some r/\¬ 10 ∈ r.s.data.toList:=by
 unfold rdn at h
 split at h
 ·cases h
 ·split at h
  ·cases h
  ·rename_i hn
   refine⟨h,?_⟩
   obtain⟨_,_,_,_,_,_,_,_,_,e,_⟩:=rd_inv h
   injection e with e1 e2
   rw [<- e1];exact hn
theorem f19_eq {t:ByteArray}(ht:t.size < 100000){k:Tk (Int->Option α)}:f19_0 α t k=told k (rdn (cutBA 32 t)):=by
 simp only [f19_0,f19_0g,f62_eq ht]
 refine (f81_eq (cut_small ht) (cutBA_ne 32 t) (q:=bad k 4) (fun y a b c d e f g h i=>rfl)).trans ?_
 cases hr:rdn (cutBA 32 t) with
 | none=>rfl
 | some r=>
  have hs:r.s.size < 100000:=cut_small ht _ (rd_name (rdn_rd hr).1)
  show f82_0 α r.s r.a r.b r.c r.d r.e r.f r.g r.h r.i (fun m=>cK (m != 0) (bad k m) (r.ap k 0))=told k (some r)
  rw [f82_eq (by omega),cK_ne]
  rfl
theorem f20_eq {t:ByteArray}(ht:t.size < 100000){k:Tk (Int->Option α)}:f20_0 α t k=told k (if 1 < (cutBA 10 t).length then none else rd (cutBA 32 t)):=by
 simp only [f20_0,f20_0g,f67_eq (e:=10) (c:=10) rfl ht,f67_eq (e:=32) (c:=32) rfl ht,strRows_len]
 by_cases h:1 < (cutBA 10 t).length
 ·rw [decide_eq_true (by omega),cK_true,if_pos h];rfl
 ·rw [decide_eq_false (by omega),cK_false,if_neg h]
  exact f83_eq (cut_small ht)
theorem cut_agree (t:ByteArray):rdn (cutBA 32 t)=if 1 < (cutBA 10 t).length then none else rd (cutBA 32 t):=by
 have hl:(cutBA 10 t).length=(cutL 10 t.data.toList).length:=by unfold cutBA;simp
 rw [hl]
 by_cases h:10 ∈ t.data.toList
 ·rw [if_pos ((cut_many 10 _).2 h)]
  cases hr:rdn (cutBA 32 t) with
  | none=>rfl
  | some r=>
   exfalso
   obtain⟨h1,h2⟩:=rdn_rd hr
   obtain⟨y1,y2,y3,y4,y5,y6,y7,y8,y9,e,e1,e2,e3,e4,e5,e6,e7,e8,e9⟩:=rd_inv h1
   obtain⟨w,hw,hm⟩:=mem_cut 32 10 (by decide) _ h
   have hw':mkB w ∈ cutBA 32 t:=by
    unfold cutBA
    exact List.mem_map.2 ⟨w,hw,rfl⟩
   have hm':10 ∈ (mkB w).data.toList:=by rw [data_mkB];exact hm
   rw [e] at hw'
   simp only [List.mem_cons,List.not_mem_nil,or_false] at hw'
   rcases hw' with q | q | q | q | q | q | q | q | q | q <;> rw [q] at hm'
   ·exact h2 hm'
   ·exact num_nl e1 hm'
   ·exact num_nl e2 hm'
   ·exact num_nl e3 hm'
   ·exact num_nl e4 hm'
   ·exact num_nl e5 hm'
   ·exact num_nl e6 hm'
   ·exact num_nl e7 hm'
   ·exact num_nl e8 hm'
   ·exact num_nl e9 hm'
 ·rw [if_neg (fun hh=>h ((cut_many 10 _).1 hh))]
  cases e:cutBA 32 t with
  | nil=>exact absurd e (cutBA_ne 32 t)
  | cons x r=>
   have hx:¬ 10 ∈ x.data.toList:=fun hm=>by
    have:x ∈ cutBA 32 t:=by rw [e];simp
    unfold cutBA at this
    obtain⟨w,hw,rfl⟩:=List.mem_map.1 this
    rw [data_mkB] at hm
    exact h (cut_sub 32 10 _ w hw hm)
   rw [show rdn (x::r)=if 10 ∈ x.data.toList then none else rd (x::r) from rfl,if_neg hx]
theorem read_same {t:ByteArray}(ht:t.size < 100000){k:Tk (Int->Option α)}:f20_0 α t k=f19_0 α t k:=by rw [f19_eq ht,f20_eq ht,cut_agree]
theorem nm_mem:∀ (l:List UInt8) (i:Nat),nmAll l i=true->∀ x ∈ l,x ≠ 10/\x ≠ 32
 | [],_,_,x,hx=>by cases hx
 | b::r,i,h,x,hx=>by
  unfold nmAll at h
  rw [Bool.and_eq_true] at h
  rcases List.mem_cons.1 hx with e | hx
  ·subst e
   have hb:=h.1
   constructor
   ·intro e;subst e
    have:badB (i:Int) (((10:UInt8).toNat:Nat):Int) (ltrB (((10:UInt8).toNat:Nat):Int))=true:=by
     rw [show ltrB (((10:UInt8).toNat:Nat):Int)=false from rfl]
     simp [badB]
    rw [this] at hb;cases hb
   ·intro e;subst e
    have:badB (i:Int) (((32:UInt8).toNat:Nat):Int) (ltrB (((32:UInt8).toNat:Nat):Int))=true:=by
     rw [show ltrB (((32:UInt8).toNat:Nat):Int)=false from rfl]
     simp [badB]
    rw [this] at hb;cases hb
  ·exact nm_mem r (i+1) h.2 x hx
structure Rdg.Ok (r:Rdg):Prop where
 inn:r.In
 size:r.s.size<=12
 nl:∀ x ∈ r.s.data.toList,x ≠ 10/\x ≠ 32
 n1:-10000000 < r.a/\r.a < 10000000
 n2:-10000000 < r.b/\r.b < 10000000
 n3:-10000000 < r.c/\r.c < 10000000
 n4:-10000000 < r.d/\r.d < 10000000
 n5:-10000000 < r.e/\r.e < 10000000
 n6:-10000000 < r.f/\r.f < 10000000
 n7:-10000000 < r.g/\r.g < 10000000
 n8:-10000000 < r.h/\r.h < 10000000
 n9:-10000000 < r.i/\r.i < 10000000
theorem Rdg.ok_of {r:Rdg}(h:r.err=0):r.Ok:=by
 obtain⟨hp,⟨h4,h5,_⟩,⟨h6,h7,_⟩,h8,h9,_⟩:=rdE_ok (show rdE r.s r.a r.b r.c r.d r.e r.f r.g r.h r.i=0 from h)
 unfold plE at hp
 split at hp
 ·rename_i hn
  split at hp
  ·rename_i hr
   obtain⟨h1,h2,h3⟩:=hr
   unfold nmB at hn
   simp only [Bool.and_eq_true,decide_eq_true_eq] at hn
   refine⟨⟨⟨by omega,by omega⟩,⟨by omega,by omega⟩,⟨by omega,by omega⟩,⟨by omega,by omega⟩,⟨by omega,by omega⟩,⟨by omega,by omega⟩,⟨by omega,by omega⟩,⟨by omega,by omega⟩,⟨by omega,by omega⟩⟩,hn.2.2,nm_mem _ _ hn.1,⟨by omega,by omega⟩,⟨by omega,by omega⟩,⟨by omega,by omega⟩,⟨by omega,by omega⟩,⟨by omega,by omega⟩,⟨by omega,by omega⟩,⟨by omega,by omega⟩,⟨by omega,by omega⟩,⟨by omega,by omega⟩⟩
  ·exact absurd hp (by decide)
 ·exact absurd hp (by decide)
theorem itoa_ns (n:Int):∀ x ∈ Lib.itoa n,x ≠ 32:=itoa_noc n 32 (by decide) (by decide)
theorem rd_ws {r:Rdg}(h:r.Ok):rd (r.ws.map mkB)=some r:=by
 obtain⟨s,a,b,c,d,e,f,g,hh,i⟩:=r
 simp [Rdg.ws,Rdg.ns,rd,num_itoa h.n1.1 h.n1.2,num_itoa h.n2.1 h.n2.2,num_itoa h.n3.1 h.n3.2,num_itoa h.n4.1 h.n4.2,num_itoa h.n5.1 h.n5.2,num_itoa h.n6.1 h.n6.2,num_itoa h.n7.1 h.n7.2,num_itoa h.n8.1 h.n8.2,num_itoa h.n9.1 h.n9.2]
theorem rd_txt {r:Rdg}(h:r.Ok):rd (cutBA 32 (mkB r.txt))=some r:=by
 unfold cutBA
 rw [data_mkB,Rdg.txt,Rdg.ws,cut_join]
 ·exact rd_ws h
 ·intro l hl
  rcases List.mem_cons.1 hl with e | e
  ·subst e;exact fun x hx=>(h.nl x hx).2
  ·obtain⟨n,_,rfl⟩:=List.mem_map.1 e
   exact itoa_ns n
theorem rd11_txt {r:Rdg}(h:r.Ok){n:Int}(h1:-10000000 < n)(h2:n < 10000000):rd11 (cutBA 32 (mkB (r.txt++32::Lib.itoa n)))=some (r,n):=by
 have e:r.txt++32::Lib.itoa n=Lib.join (r.s.data.toList::(r.ns++[n]).map Lib.itoa) [32]:=by
  simp [Rdg.txt,Rdg.ws,Rdg.ns,Lib.join_cons,Lib.joinTail]
 unfold cutBA
 rw [data_mkB,e,cut_join]
 ·have:=rd_ws h
  simp only [Rdg.ws,Rdg.ns,List.map_cons,List.map_nil] at this
  simp only [Rdg.ns,List.map_cons,List.map_nil,List.cons_append,List.nil_append,rd11,this,num_itoa h1 h2,Option.bind_some,Option.map_some]
 ·intro l hl
  rcases List.mem_cons.1 hl with e | e
  ·subst e;exact fun x hx=>(h.nl x hx).2
  ·obtain⟨n,_,rfl⟩:=List.mem_map.1 e
   exact itoa_ns n
theorem f19_back {r:Rdg}(h:r.err=0){k:Tk (Int->Option α)}:f19_0 α (mkB r.txt) k=r.ap k 0:=by
 have ok:=Rdg.ok_of h
 have hl:=Rdg.txt_len (B:=21) (by omega) (by have:=ok.size;omega) ok.inn
 have hnl:¬ 1 < (cutBA 10 (mkB r.txt)).length:=by
  unfold cutBA
  rw [List.length_map,data_mkB,cut_many]
  intro hm
  obtain⟨w,hw,hx⟩:=mem_cut 32 10 (by decide) _ hm
  rw [Rdg.txt,Rdg.ws,cut_join] at hw
  ·rcases List.mem_cons.1 hw with e | e
   ·subst e;exact (ok.nl 10 hx).1 rfl
   ·obtain⟨n,_,rfl⟩:=List.mem_map.1 e
    exact itoa_noc n 10 (by decide) (by decide) 10 hx rfl
  ·intro l hl
   rcases List.mem_cons.1 hl with e | e
   ·subst e;exact fun x hx=>(ok.nl x hx).2
   ·obtain⟨n,_,rfl⟩:=List.mem_map.1 e
    exact itoa_ns n
 rw [f19_eq (by rw [size_mkB];omega),cut_agree,if_neg hnl,rd_txt ok]
 show (if r.err ≠ 0 then bad k r.err else r.ap k 0)=_
 rw [if_neg (fun hh=>hh h)]
end Go.AM.K
