/- Print of readings, walked. -/
import Derived.Test.YtnhkllkecbmchaaGreatDoorLBa
import Derived.Test.YtnhkllkecbmchaaGreatDoorTShP
import Derived.Lib.Builder
import Derived.Shelf.Strings.Builder1
import Derived.WalkKit
namespace Go.AM
open Go.Proofs Go.RowKit
theorem builder_below {T e:TypeId}{B b:Nat}{bs:List Value}{w w':World}(h:Lib.IsBuilder T e B b bs w)(hb:Below w.heap.size w w'):Lib.IsBuilder T e B b bs w':=by
 have key:∀ p,Lib.BuilderAt T e B b p bs w->Lib.BuilderAt T e B b p bs w':=fun p ⟨h1,v,h2,h3,h4⟩=>by
  refine⟨h1,v,?_,?_,h4⟩
  ·rw [hb.block b (Array.getElem?_eq_some_iff.1 h2).1];exact h2
  ·obtain⟨k1,k2⟩:=h3
   refine⟨k1,k2.imp id fun ⟨g,cap,cur,q1,q2,q3,q4⟩=>⟨g,cap,cur,q1,q2,?_,q4⟩⟩
   rw [hb.block g (Array.getElem?_eq_some_iff.1 q3).1];exact q3
 exact h.imp (key _) (key _)
structure PLine (r:List Value)(i:Nat)(line:ByteArray):Prop where
 ok:∃ (txt num:ByteArray) (ck:Int),(∀ W,Laid Tryz.prog W->Calls Tryz.prog 82 #[.agg r.toArray] W fun e w'=>e=.returned (.int .i64 0)/\Below W.heap.size W w') /\
  (∀ W,Laid Tryz.prog W->Calls Tryz.prog 16 #[.agg r.toArray] W fun e w'=>e=.returned (.string txt)/\Below W.heap.size W w') /\
  (∀ W,Laid Tryz.prog W->Calls Tryz.prog 85 #[.int .i64 ((i:Int)+1),.string txt] W fun e w'=>e=.returned (.int .i64 ck)/\Below W.heap.size W w') /\
  (∀ W,Laid Tryz.prog W->Calls Tryz.prog 61 #[.int .i64 ck] W fun e w'=>e=.returned (.string num)/\Below W.heap.size W w') /\
  txt.size<=1000000000/\num.size<=1000000000/\line=txt++⟨#[32]⟩++num++⟨#[10]⟩
inductive PrOk:List (List Value)->Nat->ByteArray->ByteArray->Int->Prop
 | nil {i:Nat} {acc:ByteArray}:PrOk [] i acc acc 0
 | err {r:List Value} {rs:List (List Value)} {i:Nat} {acc:ByteArray} {e:Int} (h:∀ W,Laid Tryz.prog W->Calls Tryz.prog 82 #[.agg r.toArray] W fun e' w'=>e'=.returned (.int .i64 e)/\Below W.heap.size W w') (he:e ≠ 0):PrOk (r::rs) i acc ⟨#[]⟩ e
 | step {r:List Value} {rs:List (List Value)} {i:Nat} {acc line out:ByteArray} {e:Int} (h:PLine r i line) (hl:acc.size+line.size<=140737488355328) (hr:PrOk rs (i+1) (acc++line) out e):PrOk (r::rs) i acc out e
theorem Tryz.wrStr (B b:Nat)(bs:List Value)(s:ByteArray)(w:World)(h:Lib.IsBuilder 186 5 B b bs w)(hlen:bs.length+s.size<=140737488355328)(hBw:B<=w.heap.size) :
  Calls Tryz.prog 84 #[.pointer (some ⟨b,0,none⟩),.string s] w fun e w'=>e=.returned (.tuple #[.int .i64 s.size,.nilIface])/\Lib.IsBuilder 186 5 B b (bs++Lib.strCells s) w'/\Below B w w':=
 (Any.Builder_WriteString { Tryz.lays156 with } Tryz.Builder_Extra_156 B b bs s w h hlen hBw).mono fun _ _ h=>⟨h.1,.inr h.2.1,h.2.2⟩
theorem Tryz.strB (B b:Nat)(l:List UInt8)(w:World)(h:Lib.IsBuilder 186 5 B b (Lib.byteCells l) w)(hBw:B<=w.heap.size) :
  Calls Tryz.prog 86 #[.pointer (some ⟨b,0,none⟩)] w fun e w'=>e=.returned (.string ⟨l.toArray⟩)/\Below B w w':=
 Any.Builder_String_any { Tryz.lays156 with } Tryz.Builder_Extra_156 B b l w h hBw
set_option maxRecDepth 100000 in
set_option maxHeartbeats 2000000 in
theorem Tryz.print_walk (rs:List (List Value))(a:Option Addr)(cap:Nat)(hn:rs.length<=20)(w:World)(hl:Laid Tryz.prog w)
  (hcell:∀ i r,rs[i]?=some r->∃ bk off,a=some ⟨bk,off,none⟩/\bk < w.heap.size/\(∃ (s:ByteArray) (a1 a2 a3 a4 a5 a6 a7 a8 a9:Int),r=[.string s,.int .i64 a1,.int .i64 a2,.int .i64 a3,.int .i64 a4,.int .i64 a5,.int .i64 a6,.int .i64 a7,.int .i64 a8,.int .i64 a9])/\∀ j x,r[j]?=some x->w.cell? ⟨bk,off+i*10+j,none⟩=some x)
  (out:ByteArray) (e:Int) (hok:PrOk rs 0 ⟨#[]⟩ out e) :
  Calls Tryz.prog 21 #[.slice a rs.length cap] w fun e' w'=>e'=.returned (.tuple #[.string out,.int .i64 e])/\Below w.heap.size w w':=by
 have h20:¬ ((20:Int) < (rs.length:Int)):=by omega
 go_enter Tryz.func21,Tryz.ntmps21
 go_wp2_with fail
 have B0:Lib.IsBuilder 186 5 w.heap.size w.heap.size (Lib.byteCells (⟨#[]⟩:ByteArray).data.toList) (w.alloc (.cells #[.pointer none,.slice none 0 0] 186)):=
  .inl ⟨Nat.le_refl _,.slice none 0 0,heap_alloc_new w _,⟨rfl,.inl ⟨rfl,rfl⟩⟩,by simp [Value.ownBlock]⟩
 have L0:Below w.heap.size w (w.alloc (.cells #[.pointer none,.slice none 0 0] 186)):=(Below.refl _ w).alloc (Nat.le_refl _) _
 have hl':∀ W,Below w.heap.size w W->Laid Tryz.prog W:=fun W hb=>hl.keep fun b h=>hb.block b (hl.lt h)
 have HC:=Any.hidU hcell
 have HL:=Any.hidU hl'
 clear hcell hl'
 go_loopw [14] (fun iv wr=>∃ (i:Nat) (acc:ByteArray),iv=.int .i64 i/\i<=rs.length/\Hid (PrOk (rs.drop i) i acc out e)/\Hid (Lib.IsBuilder 186 5 w.heap.size w.heap.size (Lib.byteCells acc.data.toList) wr)/\Hid (Below w.heap.size w wr)) (fun iv _=>rs.length - (intOf iv).toNat)
 case atStart=>exact⟨0,⟨#[]⟩,rfl,Nat.zero_le _,hok,B0,L0⟩
 case round=>
  obtain⟨i,acc,rfl,hi,hP,hB,hW⟩:=hrel
  by_cases hlt:i < rs.length
  ·obtain⟨r,hr⟩:∃ r,rs[i]?=some r:=⟨rs[i],List.getElem?_eq_getElem hlt⟩
   obtain⟨bk,off,rfl,hbk,⟨s,a1,a2,a3,a4,a5,a6,a7,a8,a9,rfl⟩,hcl⟩:=HC.out i r hr
   ·have hc:∀ j x,[Value.string s,.int .i64 a1,.int .i64 a2,.int .i64 a3,.int .i64 a4,.int .i64 a5,.int .i64 a6,.int .i64 a7,.int .i64 a8,.int .i64 a9][j]?=some x->wr.cell? ⟨bk,off+i*10+j,none⟩=some x:=fun j x hx=>(hW.out.cell (p:=⟨bk,off+i*10+j,none⟩) hbk).trans (hcl j x hx)
    have c0:wr.cell? ⟨bk,off+i*10,none⟩=some (.string s):=hc 0 _ rfl
    have c1:=hc 1 _ rfl
    have c2:=hc 2 _ rfl
    have c3:=hc 3 _ rfl
    have c4:=hc 4 _ rfl
    have c5:=hc 5 _ rfl
    have c6:=hc 6 _ rfl
    have c7:=hc 7 _ rfl
    have c8:=hc 8 _ rfl
    have c9:=hc 9 _ rfl
    have Hc:=Any.hidU hc
    clear hc hcl
    go_wp2_with fail
    have hdr:rs.drop i=[.string s,.int .i64 a1,.int .i64 a2,.int .i64 a3,.int .i64 a4,.int .i64 a5,.int .i64 a6,.int .i64 a7,.int .i64 a8,.int .i64 a9]::rs.drop (i+1):=by
     obtain⟨h1,h2⟩:=List.getElem?_eq_some_iff.1 hr
     rw [List.drop_eq_getElem_cons h1,h2]
    have hP':=hP.out
    rw [hdr] at hP'
    obtain⟨W1,hW1⟩:∃ W1,wr.alloc (.cells #[.string s,.int .i64 a1,.int .i64 a2,.int .i64 a3,.int .i64 a4,.int .i64 a5,.int .i64 a6,.int .i64 a7,.int .i64 a8,.int .i64 a9] 39)=W1:=⟨_,rfl⟩
    have hb1:Below wr.heap.size wr W1:=by rw [<- hW1];exact (Below.refl _ _).alloc (Nat.le_refl _) _
    have hk1:W1.heap[wr.heap.size]?=some (.cells #[.string s,.int .i64 a1,.int .i64 a2,.int .i64 a3,.int .i64 a4,.int .i64 a5,.int .i64 a6,.int .i64 a7,.int .i64 a8,.int .i64 a9] 39 (0,0)):=by rw [<- hW1];exact heap_alloc_new wr _
    have hlt1:=(Array.getElem?_eq_some_iff.1 hk1).1
    have hww:w.heap.size<=wr.heap.size:=hW.out.size
    have hw1:Below w.heap.size w W1:=hW.out.trans (hb1.mono hww)
    rw [hW1]
    clear hW1
    cases hP' with
    | err h he=>
     refine (h W1 (HL.out W1 hw1)).mono ?_
     rintro e' W2 ⟨rfl,hb2⟩
     have hw2:Below w.heap.size w W2:=hw1.trans (hb2.mono hw1.size)
     have hee:=he
     clear h
     go_wp2_with fail
     go_ret2
     exact⟨rfl,hw2⟩
    | step h hsz hrest=>
     obtain⟨txt,num,ck,h82,h16,h85,h61,ht,hnm,rfl⟩:=h.ok
     refine (h82 W1 (HL.out W1 hw1)).mono ?_
     rintro e' W2 ⟨rfl,hb2⟩
     have hw2:Below w.heap.size w W2:=hw1.trans (hb2.mono hw1.size)
     have hk2:W2.heap[wr.heap.size]?=some (.cells #[.string s,.int .i64 a1,.int .i64 a2,.int .i64 a3,.int .i64 a4,.int .i64 a5,.int .i64 a6,.int .i64 a7,.int .i64 a8,.int .i64 a9] 39 (0,0)):=by rw [hb2.block _ hlt1];exact hk1
     have hd:∀ j x,#[Value.string s,.int .i64 a1,.int .i64 a2,.int .i64 a3,.int .i64 a4,.int .i64 a5,.int .i64 a6,.int .i64 a7,.int .i64 a8,.int .i64 a9][j]?=some x->W2.cell? ⟨wr.heap.size,j,none⟩=some x:=fun j x hx=>by rw [Lib.cell_of_heap hk2];exact hx
     have d0:=hd 0 _ rfl
     have d1:=hd 1 _ rfl
     have d2:=hd 2 _ rfl
     have d3:=hd 3 _ rfl
     have d4:=hd 4 _ rfl
     have d5:=hd 5 _ rfl
     have d6:=hd 6 _ rfl
     have d7:=hd 7 _ rfl
     have d8:=hd 8 _ rfl
     have d9:=hd 9 _ rfl
     have H16:=Any.hidU h16
     have H85:=Any.hidU h85
     have H61:=Any.hidU h61
     clear h h82 h16 h85 h61 hd c0 c1 c2 c3 c4 c5 c6 c7 c8 c9
     go_wp2_with fail
     refine (H16.out W2 (HL.out W2 hw2)).mono ?_
     rintro e' W3 ⟨rfl,hb3⟩
     have hw3:Below w.heap.size w W3:=hw2.trans (hb3.mono hw2.size)
     have hi20:(i:Int)+1<=20:=by omega
     have hm1:¬ ((9223372036854775807:Int) < ((txt.size+1:Nat):Int)):=by omega
     go_wp2_with fail
     refine (H85.out W3 (HL.out W3 hw3)).mono ?_
     rintro e' W4 ⟨rfl,hb4⟩
     have hw4:Below w.heap.size w W4:=hw3.trans (hb4.mono hw3.size)
     go_wp2_with fail
     refine (H61.out W4 (HL.out W4 hw4)).mono ?_
     rintro e' W5 ⟨rfl,hb5⟩
     have hw5:Below w.heap.size w W5:=hw4.trans (hb5.mono hw4.size)
     go_wp2_with fail
     have hbw:Below wr.heap.size wr W5:=(((hb1.trans (hb2.mono hb1.size)).trans (hb3.mono (Nat.le_trans hb1.size hb2.size))).trans (hb4.mono (Nat.le_trans (Nat.le_trans hb1.size hb2.size) hb3.size))).trans (hb5.mono (Nat.le_trans (Nat.le_trans (Nat.le_trans hb1.size hb2.size) hb3.size) hb4.size))
     have hB5:=builder_below hB.out hbw
     have hlen:(Lib.byteCells acc.data.toList).length+(txt++⟨#[32]⟩++num++⟨#[10]⟩).size<=140737488355328:=by
      rw [Lib.byteCells_length,Array.length_toList];exact hsz
     have H84:=Tryz.wrStr w.heap.size w.heap.size _ _ W5 hB5 hlen hw5.size
     refine H84.mono ?_
     rintro e' W6 ⟨rfl,hB6,hb6⟩
     have hw6:Below w.heap.size w W6:=hw5.trans hb6
     obtain⟨acc',hacc⟩:∃ x,x=acc++(txt++⟨#[32]⟩++num++⟨#[10]⟩):=⟨_,rfl⟩
     rw [<- hacc] at hrest
     have hcat:Lib.byteCells acc.data.toList++Lib.strCells (txt++⟨#[32]⟩++num++⟨#[10]⟩)=Lib.byteCells acc'.data.toList:=by
      rw [hacc,Lib.strCells_eq,<- Lib.byteCells_append]
      simp
     rw [hcat] at hB6
     have hrest':=Any.hidU hrest
     have HB6:=Any.hidU hB6
     have Hw6:=Any.hidU hw6
     clear hB6 hw6 hrest hP hB hW hcat hacc
     go_wp2
     refine⟨⟨i+1,acc',by go_num,by omega,hrest',HB6,Hw6⟩,?_⟩
     simp only [intOf]
     omega
  ·have hie:i=rs.length:=by omega
   have hP':=hP.out
   rw [hie,List.drop_length] at hP'
   obtain⟨rfl,rfl⟩:out=acc/\e=0:=by
    cases hP';exact⟨rfl,rfl⟩
   go_wp2_with fail
   refine (Tryz.strB w.heap.size w.heap.size out.data.toList wr hB.out hW.out.size).mono ?_
   rintro e' w2 ⟨rfl,hb2⟩
   have hfin:Below w.heap.size w w2:=hW.out.trans hb2
   go_wp2
   go_ret2
   exact⟨by simp,hfin⟩
set_option maxRecDepth 100000 in
theorem Tryz.print_large (a:Option Addr)(n cap:Nat)(hn:20 < n)(w:World) :
  Calls Tryz.prog 21 #[.slice a n cap] w fun e' w'=>e'=.returned (.tuple #[.string ⟨#[]⟩,.int .i64 8])/\Below w.heap.size w w':=by
 have h20:((20:Int) < (n:Int)):=by omega
 go_enter Tryz.func21,Tryz.ntmps21
 go_wp2
 go_ret2
 exact⟨rfl,Below.refl _ _⟩
end Go.AM
