/- Readings: Parse. -/
import Derived.Test.YtnhkllkecbmchaaGreatDoorTX5
namespace Go.AM.K
open Go.LT
set_option linter.unusedVariables false
set_option linter.unusedSimpArgs false
variable {α:Type}
def joinLn:List (List UInt8)->List (List UInt8)
 | []=>[]
 | [last]=>if last.isEmpty then [] else [last]
 | x::y::r=>(x++[10])::joinLn (y::r)
theorem linesGo_cut:∀ (l acc:List UInt8),∃ h t,cutL 10 l=h::t/\linesGo acc l=joinLn ((acc++h)::t)
 | [],acc=>⟨[],[],rfl,by simp [linesGo,joinLn]⟩
 | b::l,acc=>by
  by_cases hb:b=10
  ·subst hb
   obtain⟨h,t,e1,e2⟩:=linesGo_cut l []
   refine⟨[],h::t,by simp [cutL,e1],?_⟩
   simp [linesGo,joinLn,e2]
  ·obtain⟨h,t,e1,e2⟩:=linesGo_cut l (acc++[b])
   refine⟨b::h,t,by simp [cutL,e1,hb],?_⟩
   simp [linesGo,hb,e2]
theorem lines_cut (l:List UInt8):linesL l=joinLn (cutL 10 l):=by
 obtain⟨h,t,e1,e2⟩:=linesGo_cut l []
 unfold linesL
 rw [e2,e1];rfl
theorem cut_no (c:UInt8):∀ (l w:List UInt8),w ∈ cutL c l->¬ c ∈ w
 | [],w,h=>by simp [cutL] at h;subst h;simp
 | b::l,w,h=>by
  unfold cutL at h
  split at h
  ·rcases List.mem_cons.1 h with h | h
   ·subst h;simp
   ·exact cut_no c l w h
  ·rename_i hb
   split at h
   ·rename_i q t e
    rcases List.mem_cons.1 h with h | h
    ·subst h
     have:=cut_no c l q (by rw [e];simp)
     intro hm
     rcases List.mem_cons.1 hm with hm | hm
     ·exact hb hm.symm
     ·exact this hm
    ·exact cut_no c l w (by rw [e];simp [h])
   ·rename_i e;exact absurd e (cutL_ne c l)
theorem f248_eq {x:List UInt8}{c:UInt8}(hx:x.length < 1000000){k:Bool->Option α}:f248_0 α (mkB (x++[c])) (⟨#[10]⟩:ByteArray) k=k (decide (c=10)):=by
 have e1:(mkB (x++[c])).size=x.length+1:=by rw [size_mkB];simp
 have e2:ByteArray.size (⟨#[10]⟩:ByteArray)=1:=rfl
 have w:w64 (((x.length+1:Nat):Int) - ((1:Nat):Int))=(x.length:Int):=by rw [w64_in (by omega) (by omega)];omega
 simp only [f248_0,f248_0g]
 rw [e1,e2,w,decide_eq_true (by omega),cK_true,gK_of (decide_eq_true ⟨by omega,by omega,by omega⟩),toList_eq,mkB_extract,data_mkB,data_mkB]
 rw [show Int.toNat (x.length:Int)=x.length by omega,show Int.toNat ((x.length+1:Nat):Int)=x.length+1 by omega]
 congr 1
 rw [List.drop_left,show x.length+1 - x.length=1 by omega]
 simp
theorem f88_at {x:List UInt8}(hx:x.length < 1000000){k:ByteArray->Bool->Option α}:f88_0 α (mkB (x++[10])) (⟨#[10]⟩:ByteArray) k=k (mkB x) true:=by
 have e1:(mkB (x++[10])).size=x.length+1:=by rw [size_mkB];simp
 have e2:ByteArray.size (⟨#[10]⟩:ByteArray)=1:=rfl
 have w:w64 (((x.length+1:Nat):Int) - ((1:Nat):Int))=(x.length:Int):=by rw [w64_in (by omega) (by omega)];omega
 simp only [f88_0,f88_0g,f178_0,f178_0g]
 rw [f248_eq hx,decide_eq_true rfl,Bool.not_true,cK_false,e1,e2,w,gK_of (decide_eq_true ⟨by omega,by omega,by omega⟩),mkB_extract,data_mkB]
 rw [show Int.toNat (x.length:Int)=x.length by omega,List.drop_zero,Nat.sub_zero,List.take_left]
theorem f88_no {l:List UInt8}(hl:l.length < 1000000)(hne:l ≠ [])(h:¬ 10 ∈ l){k:ByteArray->Bool->Option α}:f88_0 α (mkB l) (⟨#[10]⟩:ByteArray) k=k (mkB l) false:=by
 rcases List.eq_nil_or_concat l with e | ⟨x,c,e⟩
 ·exact absurd e hne
 ·subst e
  rw [List.concat_eq_append] at hl h ⊢
  have hc:c ≠ 10:=fun e=>h (by simp [e])
  simp at hl
  simp only [f88_0,f88_0g,f178_0,f178_0g]
  rw [f248_eq (by omega),decide_eq_false hc,Bool.not_false,cK_true]
def finP (acc:List Rdg):List Rdg × Int × Int:=if 20 < acc.length then ([],0,8) else (acc,0,0)
def parseGo:List Rdg->List (List UInt8)->List Rdg × Int × Int
 | _,[]=>([],0,0)
 | acc,[last]=>if last=[] then finP acc else ([],(acc.length:Int)+1,4)
 | acc,x::y::l=>match rd11 (cutBA 32 (mkB x)) with
  | none=>([],(acc.length:Int)+1,4)
  | some p=>if p.1.err ≠ 0 then ([],(acc.length:Int)+1,p.1.err) else if chk ((acc.length:Int)+1) p.1.txt=p.2 then parseGo (acc++[p.1]) (y::l) else ([],(acc.length:Int)+1,21)
def outP (k:Rows->Int->Int->Option α)(p:List Rdg × Int × Int):Option α:=k (p.1.map Rdg.row) p.2.1 p.2.2
theorem fin_eq {acc:List Rdg}{k:Rows->Int->Int->Option α}:cK (decide (20 < ((List.length (acc.map Rdg.row):Nat):Int))) (k ([]:Rows) 0 8) (k (acc.map Rdg.row) 0 0)=outP k (finP acc):=by
 rw [List.length_map]
 unfold finP
 by_cases h:20 < acc.length
 ·rw [decide_eq_true (by omega),if_pos h];rfl
 ·rw [decide_eq_false (by omega),if_neg h];rfl
theorem rd11_inv {ws:List ByteArray}{p:Rdg × Int}(h:rd11 ws=some p):p.1.In/\p.1.s ∈ ws:=by
 unfold rd11 at h
 split at h
 ·rw [Option.bind_eq_some_iff] at h
  obtain⟨r,h1,h2⟩:=h
  rw [Option.map_eq_some_iff] at h2
  obtain⟨n,_,rfl⟩:=h2
  refine⟨rd_in h1,?_⟩
  have:=rd_name h1
  simp only [List.mem_cons,List.not_mem_nil,or_false] at this ⊢
  rcases this with h | h | h | h | h | h | h | h | h | h <;> simp [h]
 ·cases h
theorem cK_bne {a b:Int}{x y:Option α}:cK (a != b) x y=if a=b then y else x:=by
 by_cases h:a=b
 ·rw [if_pos h,h,bne_self_eq_false];rfl
 ·rw [if_neg h,show (a != b)=true by simpa using h];rfl
theorem V23_cons {z:ByteArray}{ys:List ByteArray}{a:Rows}{k1:Rows->Option α}{k2:Int->Int->Rows->Option α}:V23_0_0 α k1 k2 (z::ys) a=S23_0_0 α z a (V23_0_0 α k1 k2 ys) k1 k2:=rfl
theorem go_one {acc:List Rdg}{last:List UInt8}:parseGo acc [last]=if last=[] then finP acc else ([],(acc.length:Int)+1,4):=rfl
theorem V23_eq {k:Rows->Int->Int->Option α}:∀ (ls:List (List UInt8)) (acc:List Rdg),ls ≠ []->(∀ x ∈ ls,¬ 10 ∈ x/\x.length < 90000)->acc.length+ls.length < 100000 ->
  V23_0_0 α (fun b=>cK (decide (20 < ((List.length b:Nat):Int))) (k ([]:Rows) 0 8) (k b 0 0)) (fun d e _=>k ([]:Rows) d e) ((joinLn ls).map mkB) (acc.map Rdg.row)=outP k (parseGo acc ls)
 | [],_,hne,_,_=>absurd rfl hne
 | [last],acc,_,hx,hl=>by
  obtain⟨h10,hsz⟩:=hx last (by simp)
  by_cases h0:last=[]
  ·subst h0
   show cK (decide (20 < ((List.length (acc.map Rdg.row):Nat):Int))) (k ([]:Rows) 0 8) (k (acc.map Rdg.row) 0 0)=outP k (if ([]:List UInt8)=[] then finP acc else _)
   rw [if_pos rfl,fin_eq]
  ·have e:joinLn [last]=[last]:=by
    unfold joinLn
    rw [if_neg (by simpa using h0)]
   rw [e,List.map_cons,List.map_nil,V23_cons,go_one]
   simp only [S23_0_0,S23_0_0g]
   rw [f88_no (by omega) h0 h10,if_neg h0,f62_eq (by rw [size_mkB];omega)]
   have hw:w64 (((List.length (acc.map Rdg.row):Nat):Int)+1)=(acc.length:Int)+1:=by rw [List.length_map,w64_in (by simp at hl;omega) (by simp at hl;omega)]
   refine (f81_1_eq (cut_small (by rw [size_mkB];omega)) (cutBA_ne _ _) ?_ (q:=k ([]:Rows) ((acc.length:Int)+1) 4) ?_).trans ?_
   ·intro x hx hm
    unfold cutBA at hx
    obtain⟨w,hw',rfl⟩:=List.mem_map.1 hx
    rw [data_mkB] at hw' hm
    exact h10 (cut_sub 32 10 _ w hw' hm)
   ·intro y a b c d e g h i j z
    show k ([]:Rows) (w64 (((List.length (acc.map Rdg.row):Nat):Int)+1)) 4=_
    rw [hw]
   ·split
    ·show k ([]:Rows) (w64 (((List.length (acc.map Rdg.row):Nat):Int)+1)) 4=_
     rw [hw];rfl
    ·rfl
 | x::y::l,acc,_,hx,hl=>by
  obtain⟨h10,hsz⟩:=hx x (by simp)
  have ih:=fun a=>V23_eq (k:=k) (y::l) a (by simp) (fun z hz=>hx z (List.mem_cons_of_mem _ hz))
  rw [show joinLn (x::y::l)=(x++[10])::joinLn (y::l) from rfl,List.map_cons,V23_cons]
  simp only [S23_0_0,S23_0_0g]
  rw [f88_at (by omega),f62_eq (by rw [size_mkB];omega)]
  have hw:w64 (((List.length (acc.map Rdg.row):Nat):Int)+1)=(acc.length:Int)+1:=by rw [List.length_map,w64_in (by simp at hl;omega) (by simp at hl;omega)]
  rw [hw]
  refine (f81_1_eq (cut_small (by rw [size_mkB];omega)) (cutBA_ne _ _) ?_ (q:=k ([]:Rows) ((acc.length:Int)+1) 4) ?_).trans ?_
  ·intro x hx hm
   unfold cutBA at hx
   obtain⟨w,hw',rfl⟩:=List.mem_map.1 hx
   rw [data_mkB] at hw' hm
   exact h10 (cut_sub 32 10 _ w hw' hm)
  ·intro y a b c d e g h i j z
   rfl
  ·unfold parseGo
   cases hr:rd11 (cutBA 32 (mkB x)) with
   | none=>rfl
   | some p=>
    obtain⟨hin,hnm⟩:=rd11_inv hr
    have hs:p.1.s.size < 100000:=cut_small (by rw [size_mkB];omega) _ hnm
    show f82_0 α p.1.s p.1.a p.1.b p.1.c p.1.d p.1.e p.1.f p.1.g p.1.h p.1.i (fun o=>cK (o != 0) (k ([]:Rows) ((acc.length:Int)+1) o) _)=outP k (if p.1.err ≠ 0 then _ else _)
    rw [f82_eq (by omega),cK_ne]
    change (if p.1.err ≠ 0 then k ([]:Rows) ((acc.length:Int)+1) p.1.err else _)=_
    by_cases he:p.1.err=0
    ·rw [if_neg (fun hh=>hh he),if_neg (fun hh=>hh he)]
     have ok:=Rdg.ok_of he
     have htl:=Rdg.txt_len (B:=21) (by omega) (by have:=ok.size;omega) ok.inn
     rw [f16_eq (by omega) hin,f85_eq (by rw [size_mkB];omega) (by omega) (by simp at hl;omega),data_mkB,cK_bne]
     by_cases hc:chk ((acc.length:Int)+1) p.1.txt=p.2
     ·rw [if_pos hc,if_pos hc]
      have:=ih (acc++[p.1]) (by simp at hl ⊢;omega)
      rw [List.map_append] at this
      refine (gK_of (ap_rd (x:=p.1) (by simp at hl;omega))).trans ?_
      exact this
     ·rw [if_neg hc,if_neg hc];rfl
    ·rw [if_pos he,if_pos he];rfl
end Go.AM.K
