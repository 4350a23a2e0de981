/- Readings: checks, errors, Print. -/
import Derived.Test.YtnhkllkecbmchaaGreatDoorTX4
import Derived.Test.YtnhkllkecbmchaaGreatDoorTPi
namespace Go.AM.K
open Go.LT
set_option linter.unusedVariables false
set_option linter.unusedSimpArgs false
variable {α:Type}
def chk (n:Int)(l:List UInt8):Int:=l.foldl (fun a (c:UInt8)=>Int.tmod (31*a+(c.toNat:Nat)) 65521) n
theorem chk_cons (n:Int)(c:UInt8)(l:List UInt8):chk n (c::l)=chk (Int.tmod (31*n+(c.toNat:Nat)) 65521) l:=rfl
theorem chk_step {n:Int}(h1:0<=n)(c:UInt8):0<=Int.tmod (31*n+(c.toNat:Nat)) 65521/\Int.tmod (31*n+(c.toNat:Nat)) 65521 < 1000000:=by
 have h:0<=31*n+((c.toNat:Nat):Int):=by omega
 have:=Int.tmod_eq_emod_of_nonneg h (b:=65521)
 rw [this];omega
theorem chk_bd:∀ (l:List UInt8) (n:Int),0<=n->n < 1000000->0<=chk n l/\chk n l < 1000000
 | [],n,h1,h2=>⟨h1,h2⟩
 | c::l,n,h1,h2=>by
  rw [chk_cons]
  have:=chk_step h1 c
  exact chk_bd l _ this.1 this.2
theorem step_w {c:Int}(h1:0<=c)(h2:c < 1000000)(b:UInt8):Int.tmod (w64 ((w64 (31*c))+(w64 ((b.toNat:Nat):Int)))) 65521=Int.tmod (31*c+(b.toNat:Nat)) 65521:=by
 have hb:b.toNat < 256:=b.toNat_lt
 rw [w64_in (n:=31*c) (by omega) (by omega),w64_in (n:=((b.toNat:Nat):Int)) (by omega) (by omega),w64_in (by omega) (by omega)]
theorem R85_eq {s:ByteArray}(hs:s.size < 100000000){k1:Int->Int->Bool->Option α}:∀ (m n i:Nat) (c:Int),i+m=s.size->m < n->0<=c->c < 1000000 ->
  R85_0_0 α ((s.size:Nat):Int) (bytesR s) k1 n c i=k1 (chk c (s.data.toList.drop i)) s.size false
 | m,0,_,_,_,hn,_,_=>absurd hn (Nat.not_lt_zero _)
 | 0,n+1,i,c,hm,_,_,_=>by
  have hi:i=s.size:=by omega
  subst hi
  show cK (decide ((s.size:Int) < ((s.size:Nat):Int))) _ (k1 c s.size _)=_
  rw [decide_eq_false (by omega),cK_false,List.drop_of_length_le (by simp)]
  rfl
 | m+1,n+1,i,c,hm,hn,h1,h2=>by
  have hi:i < s.data.toList.length:=by rw [Array.length_toList];show i < s.size;omega
  obtain⟨b,hb⟩:∃ b,s.data.toList[i]?=some b:=⟨s.data.toList[i],List.getElem?_eq_getElem hi⟩
  have hdrop:s.data.toList.drop i=b::s.data.toList.drop (i+1):=by
   have:=drop_split hb (Nat.le_refl i)
   rwa [List.drop_of_length_le (l:=List.take i _) (by simp;omega)] at this
  have hb':s.data.toList[i]'hi=b:=(List.getElem?_eq_some_iff.1 hb).2
  show cK (decide ((i:Int) < ((s.size:Nat):Int))) (ixK (bytesR s) i 1 (ldK (bytesR s) (Int.toNat (i:Int)) 0 [.int .u8] _)) _=_
  rw [decide_eq_true (by omega),cK_true,ix_byte hi,ld_byte hi,hb',hdrop,chk_cons]
  have hw2:w64 ((i:Int)+1)=((i+1:Nat):Int):=by rw [w64_in (by omega) (by omega)];omega
  rw [step_w h1 h2,hw2]
  have:=chk_step h1 b
  exact R85_eq hs m n (i+1) _ (by omega) (by omega) this.1 this.2
theorem f85_eq {s:ByteArray}(hs:s.size < 100000000){c:Int}(h1:0<=c)(h2:c < 1000000){k:Int->Option α}:f85_0 α c s k=k (chk c s.data.toList):=by
 have hf:=fuel_ge
 show gK (decide (ByteArray.size s<=9223372036854775807)) (R85_0_0 α ((List.length (bytesR s):Nat):Int) (bytesR s) (fun d e g=>k d) fuel c 0)=_
 rw [gK_of (decide_eq_true (by omega)),bytesR_len]
 exact R85_eq hs s.size fuel 0 c (by omega) (by omega) h1 h2
theorem R89_eq {s:ByteArray}(hs:s.size < 100000000){k1:Int->Int->Bool->Option α}:∀ (m n i:Nat) (c:Int),i+m=s.size->m < n->0<=c->c < 1000000 ->
  R89_0_0 α s k1 n c i=k1 (chk c (s.data.toList.drop i)) s.size false
 | m,0,_,_,_,hn,_,_=>absurd hn (Nat.not_lt_zero _)
 | 0,n+1,i,c,hm,_,_,_=>by
  have hi:i=s.size:=by omega
  subst hi
  show cK (decide ((s.size:Int) < ((ByteArray.size s:Nat):Int))) _ (k1 c s.size _)=_
  rw [decide_eq_false (by omega),cK_false,List.drop_of_length_le (by simp)]
  rfl
 | m+1,n+1,i,c,hm,hn,h1,h2=>by
  have hi:i < s.data.toList.length:=by rw [Array.length_toList];show i < s.size;omega
  obtain⟨b,hb⟩:∃ b,s.data.toList[i]?=some b:=⟨s.data.toList[i],List.getElem?_eq_getElem hi⟩
  have hdrop:s.data.toList.drop i=b::s.data.toList.drop (i+1):=by
   have:=drop_split hb (Nat.le_refl i)
   rwa [List.drop_of_length_le (l:=List.take i _) (by simp;omega)] at this
  show cK (decide ((i:Int) < ((ByteArray.size s:Nat):Int))) (sixK s i _) _=_
  rw [decide_eq_true (by omega),cK_true,six_at hb,hdrop,chk_cons]
  have hw2:w64 ((i:Int)+1)=((i+1:Nat):Int):=by rw [w64_in (by omega) (by omega)];omega
  rw [step_w h1 h2,hw2]
  have:=chk_step h1 b
  exact R89_eq hs m n (i+1) _ (by omega) (by omega) this.1 this.2
theorem f89_eq {s:ByteArray}(hs:s.size < 100000000){c:Int}(h1:0<=c)(h2:c < 1000000){k:Int->Option α}:f89_0 α s c k=k (chk c s.data.toList):=by
 have hf:=fuel_ge
 exact R89_eq hs (k1:=fun d e g=>k d) s.size fuel 0 c (by omega) (by omega) h1 h2
abbrev shR:List Sh:=[.str,.int .i64,.int .i64,.int .i64,.int .i64,.int .i64,.int .i64,.int .i64,.int .i64,.int .i64]
theorem rowR {l:List Rdg}{j:Nat}{r:Rdg}(h:l[j]?=some r){f:Tk (Option α)}:rowK (l.map Rdg.row) (j:Int) shR f=r.ap f:=rowK_get (r:=r.row) (by rw [List.getElem?_map,h];rfl)
theorem ap_rd {l:List Rdg}{x:Rdg}(h:l.length < 1000000):apOk 10 88 (l.map Rdg.row) [x.row]=true:=by
 unfold apOk
 refine decide_eq_true ⟨rfl,?_,?_⟩ <;> simp <;> omega
def err1:List Rdg->Int
 | []=>0
 | r::l=>if r.err ≠ 0 then r.err else err1 l
theorem drop_at {β:Type}{l:List β}{i:Nat}{x:β}{r:List β}(h:l.drop i=x::r):l[i]?=some x/\l.drop (i+1)=r/\i < l.length:=by
 have h1:l[i]?=some x:=by
  have:(l.drop i)[0]?=some x:=by rw [h];rfl
  simpa using this
 refine⟨h1,?_,(List.getElem?_eq_some_iff.1 h1).1⟩
 rw [<- List.drop_drop,h];rfl
theorem R22_eq {L:List Rdg}(hL:L.length<=1000){k:Int->Option α}:∀ (l:List Rdg) (n i:Nat),L.drop i=l->l.length < n->R22_0_0 α (L.map Rdg.row) k (fun _ _=>k 0) n i=k (err1 l)
 | _,0,_,_,hn=>absurd hn (Nat.not_lt_zero _)
 | [],n+1,i,h,_=>by
  have:=List.drop_eq_nil_iff.1 h
  show cK (decide ((i:Int) < ((List.length (L.map Rdg.row):Nat):Int))) _ (k 0)=_
  rw [List.length_map,decide_eq_false (by omega)];rfl
 | r::l,n+1,i,h,hn=>by
  obtain⟨h1,h2,h3⟩:=drop_at h
  show cK (decide ((i:Int) < ((List.length (L.map Rdg.row):Nat):Int))) (rowK (L.map Rdg.row) i shR fun e g h i j l m o p q=>f18_0 α e g h i j l m o p q _) _=_
  rw [List.length_map,decide_eq_true (by omega),cK_true,rowR h1]
  show f18_0 α r.s r.a r.b r.c r.d r.e r.f r.g r.h r.i (fun c=>cK (c != 0) (k c) _)=_
  rw [f18_eq,cK_ne]
  have hw2:w64 ((i:Int)+1)=((i+1:Nat):Int):=by rw [w64_in (by omega) (by omega)];omega
  rw [hw2,R22_eq hL l n (i+1) h2 (by simp at hn;omega)]
  show (if r.err ≠ 0 then k r.err else _)=k (if r.err ≠ 0 then r.err else err1 l)
  split <;> rfl
theorem f22_eq {l:List Rdg}(hl:l.length<=1000){k:Int->Option α}:f22_0 α (l.map Rdg.row) k=k (if 20 < l.length then 8 else err1 l):=by
 have hf:=fuel_ge
 show cK (decide (20 < ((List.length (l.map Rdg.row):Nat):Int))) (k 8) (R22_0_0 α (l.map Rdg.row) k (fun _ _=>k 0) fuel 0)=_
 rw [List.length_map]
 by_cases h:20 < l.length
 ·rw [decide_eq_true (by omega),if_pos h];rfl
 ·rw [decide_eq_false (by omega),if_neg h,cK_false]
  exact R22_eq hl l fuel 0 rfl (by omega)
def ln (n:Nat)(r:Rdg):List UInt8:=r.txt++32::Lib.itoa (chk (n+1) r.txt)
def prT:List Rdg->Nat->List UInt8
 | [],_=>[]
 | r::l,n=>ln n r++10::prT l (n+1)
def Good (l:List Rdg):Prop:=∀ r ∈ l,r.s.size<=30/\r.In
theorem Good.tail {r:Rdg}{l:List Rdg}(h:Good (r::l)):Good l:=fun x hx=>h x (List.mem_cons_of_mem _ hx)
theorem ln_len {n:Nat}{r:Rdg}(hn:n < 1000)(hs:r.s.size<=30)(h:r.In):r.txt.length<=309/\(Lib.itoa (chk (n+1) r.txt)).length<=21/\(ln n r).length<=400:=by
 have h1:=Rdg.txt_len (B:=30) (by omega) hs h
 have hc:=chk_bd r.txt ((n:Int)+1) (by omega) (by omega)
 have h2:=Lib.itoa_length_le (chk (n+1) r.txt) (by omega) (by omega)
 refine⟨h1,h2,?_⟩
 simp [ln];omega
theorem prT_len:∀ (l:List Rdg) (n:Nat),n+l.length<=1000->Good l->(prT l n).length<=401*l.length
 | [],_,_,_=>by simp [prT]
 | r::l,n,hn,h=>by
  have h1:=h r (by simp)
  have h2:=prT_len l (n+1) (by simp at hn;omega) h.tail
  have h3:=(ln_len (n:=n) (r:=r) (by simp at hn;omega) h1.1 h1.2).2.2
  simp [prT];omega
theorem prGo_eq:∀ (l:List Rdg) (n:Nat) (acc:ByteArray),n+l.length<=1000->Good l->acc.size+401*l.length<=1000000->prGo (l.map Rdg.row) n acc=some (if err1 l=0 then (acc++mkB (prT l n),0) else (⟨#[]⟩,err1 l))
 | [],n,acc,_,_,_=>by
  show some (acc,0)=some (if (0:Int)=0 then (acc++mkB [],0) else _)
  rw [if_pos rfl]
  congr 2
  rw [app_mkB,List.append_nil]
 | r::l,n,acc,hn,h,ha=>by
  have h1:=h r (by simp)
  have hl:=ln_len (n:=n) (r:=r) (by simp at hn;omega) h1.1 h1.2
  have hc:=chk_bd r.txt ((n:Int)+1) (by omega) (by simp at hn;omega)
  show f82_0 _ r.s r.a r.b r.c r.d r.e r.f r.g r.h r.i (fun er=>if er=0 then
   f16_0 _ r.s r.a r.b r.c r.d r.e r.f r.g r.h r.i fun txt=>f85_0 _ ((n:Int)+1) txt fun ck=>f61_0 _ ck fun num=>if szOk txt num acc then prGo (l.map Rdg.row) (n+1) (acc++(txt++⟨#[32]⟩++num++⟨#[10]⟩)) else none
   else some ((⟨#[]⟩:ByteArray),er))=_
  rw [f82_eq (by omega)]
  change (if r.err=0 then _ else some ((⟨#[]⟩:ByteArray),r.err))=_
  by_cases he:r.err=0
  ·rw [if_pos he,f16_eq (by omega) h1.2,f85_eq (by rw [size_mkB];omega) (by omega) (by simp at hn;omega),data_mkB,f61_eq (by omega) (by omega)]
   have e1:mkB r.txt++(⟨#[32]⟩:ByteArray)++mkB (Lib.itoa (chk ((n:Int)+1) r.txt))++(⟨#[10]⟩:ByteArray)=mkB (ln n r++[10]):=by
    rw [show (⟨#[32]⟩:ByteArray)=mkB [32] from rfl,show (⟨#[10]⟩:ByteArray)=mkB [10] from rfl,mkB_app,mkB_app,mkB_app]
    simp [ln]
   have hz:szOk (mkB r.txt) (mkB (Lib.itoa (chk ((n:Int)+1) r.txt))) acc=true:=by
    unfold szOk
    have hz1:(mkB r.txt).size=r.txt.length:=size_mkB _
    have hz2:(mkB (Lib.itoa (chk ((n:Int)+1) r.txt))).size=(Lib.itoa (chk ((n:Int)+1) r.txt)).length:=size_mkB _
    have hz3:(mkB (ln n r++[10])).size=(ln n r).length+1:=by rw [size_mkB];simp
    rw [e1,hz1,hz2,hz3]
    simp only [decide_eq_true_eq]
    have:=hl.1;have:=hl.2.1;have:=hl.2.2
    refine⟨by omega,by omega,?_⟩
    simp at ha ⊢;omega
   rw [if_pos hz,e1,prGo_eq l (n+1) _ (by simp at hn;omega) h.tail (by
    have:(acc++mkB (ln n r++[10])).size=acc.size+(ln n r).length+1:=by rw [app_mkB,size_mkB];simp;omega
    rw [this];have:=hl.2.2;simp at ha;omega)]
   have e2:err1 (r::l)=err1 l:=by unfold err1;rw [if_neg (fun hh=>hh he)];cases l <;> rfl
   rw [e2]
   split
   ·congr 2
    rw [app_mkB,app_mkB,app_mkB]
    simp [prT]
   ·rfl
  ·rw [if_neg he]
   have e2:err1 (r::l)=r.err:=by unfold err1;rw [if_pos he]
   rw [e2,if_neg he]
theorem rows_some:∀ l:List Rdg,∃ rs,(l.map Rdg.row).mapM rdRow=some rs
 | []=>⟨[],rfl⟩
 | r::l=>by
  obtain⟨rs,h⟩:=rows_some l
  refine⟨[.string r.s,.int .i64 r.a,.int .i64 r.b,.int .i64 r.c,.int .i64 r.d,.int .i64 r.e,.int .i64 r.f,.int .i64 r.g,.int .i64 r.h,.int .i64 r.i]::rs,?_⟩
  rw [List.map_cons,List.mapM_cons,h]
  rfl
theorem f21_eq {l:List Rdg}(hl:l.length<=1000)(h:Good l){k:ByteArray->Int->Option α} :
  f21_0 α (l.map Rdg.row) k=if (if 20 < l.length then 8 else err1 l)=0 then k (mkB (prT l 0)) 0 else k ⟨#[]⟩ (if 20 < l.length then 8 else err1 l):=by
 show (match rPrint (l.map Rdg.row) with | some p=>k p.1 p.2 | none=>none)=_
 unfold rPrint
 rw [List.length_map]
 by_cases h20:20 < l.length
 ·rw [if_neg (by omega),if_pos h20,if_neg (by decide)]
 ·rw [if_pos (by omega),if_neg h20]
  obtain⟨rs,hr⟩:=rows_some l
  rw [hr]
  show (match prGo (l.map Rdg.row) 0 ⟨#[]⟩ with | some p=>k p.1 p.2 | none=>none)=_
  rw [prGo_eq l 0 _ (by omega) h (by rw [show (⟨#[]⟩:ByteArray).size=0 from rfl];omega)]
  by_cases he:err1 l=0
  ·rw [if_pos he,if_pos he]
   show k ((⟨#[]⟩:ByteArray)++mkB (prT l 0)) 0=_
   rw [app_mkB];rfl
  ·rw [if_neg he,if_neg he]
theorem R24_eq {L:List Rdg}(hL:L.length<=1000)(hG:Good L){k:ByteArray->Option α}:∀ (l:List Rdg) (n i:Nat) (acc:List UInt8),L.drop i=l->l.length < n->acc.length+401*l.length<=1000000 ->
  R24_0_0 α (L.map Rdg.row) (fun x _ _=>k x) n (mkB acc) i=k (mkB (acc++prT l i))
 | _,0,_,_,_,hn,_=>absurd hn (Nat.not_lt_zero _)
 | [],n+1,i,acc,h,_,_=>by
  have:=List.drop_eq_nil_iff.1 h
  show cK (decide ((i:Int) < ((List.length (L.map Rdg.row):Nat):Int))) _ (k (mkB acc))=_
  rw [List.length_map,decide_eq_false (by omega),prT,List.append_nil];rfl
 | r::l,n+1,i,acc,h,hn,ha=>by
  obtain⟨h1,h2,h3⟩:=drop_at h
  have hg:=hG r (List.mem_of_getElem? h1)
  have hl:=ln_len (n:=i) (r:=r) (by omega) hg.1 hg.2
  have hc:=chk_bd r.txt ((i:Int)+1) (by omega) (by omega)
  have hw2:w64 ((i:Int)+1)=((i+1:Nat):Int):=by rw [w64_in (by omega) (by omega)];omega
  show cK (decide ((i:Int) < ((List.length (L.map Rdg.row):Nat):Int))) (rowK (L.map Rdg.row) i shR fun j l m o p q r s t w=>f17_0 α j l m o p q r s t w _) _=_
  have m:IntKind.max .i64=9223372036854775807:=rfl
  simp at ha
  rw [List.length_map,decide_eq_true (by omega),cK_true,rowR h1]
  rw [show (⟨#[32]⟩:ByteArray)=mkB [32] from rfl,show (⟨#[10]⟩:ByteArray)=mkB [10] from rfl]
  refine (f17_eq (by omega) hg.2).trans ?_
  rw [gK_of (by rw [size_mkB,size_mkB,m];simp;omega),mkB_app,gK_of (by rw [size_mkB,size_mkB,m];simp;omega),hw2]
  rw [f89_eq (by rw [size_mkB];omega) (by omega) (by omega),data_mkB,show (((i+1:Nat):Int))=(i:Int)+1 by omega,f69_eq (by omega) (by omega)]
  rw [mkB_app,gK_of (by rw [size_mkB,size_mkB,m];simp;omega),mkB_app,gK_of (by rw [size_mkB,size_mkB,m];simp;omega),mkB_app]
  rw [show (i:Int)+1=((i+1:Nat):Int) by omega]
  refine (R24_eq hL hG l n (i+1) _ h2 (by simp at hn;omega) (by have:=hl.1;have:=hl.2.1;simp at ha ⊢;omega)).trans ?_
  congr 2
  simp [prT,ln]
theorem f24_eq {l:List Rdg}(hl:l.length<=1000)(h:Good l){k:ByteArray->Option α}:f24_0 α (l.map Rdg.row) k=k (mkB (prT l 0)):=by
 have hf:=fuel_ge
 exact R24_eq hl h l fuel 0 [] rfl (by omega) (by simp;omega)
theorem R25_refl {L:List Rdg}(hL:L.length<=1000000){k:Bool->Option α}:∀ (l:List Rdg) (n i:Nat),L.drop i=l->l.length < n->R25_0_0 α (L.map Rdg.row) (L.map Rdg.row) (k false) (fun _ _=>k true) n i=k true
 | _,0,_,_,hn=>absurd hn (Nat.not_lt_zero _)
 | [],n+1,i,h,_=>by
  have:=List.drop_eq_nil_iff.1 h
  show cK (decide ((i:Int) < ((List.length (L.map Rdg.row):Nat):Int))) _ (k true)=_
  rw [List.length_map,decide_eq_false (by omega)];rfl
 | r::l,n+1,i,h,hn=>by
  obtain⟨h1,h2,h3⟩:=drop_at h
  have hw2:w64 ((i:Int)+1)=((i+1:Nat):Int):=by rw [w64_in (by omega) (by omega)];omega
  show cK (decide ((i:Int) < ((List.length (L.map Rdg.row):Nat):Int))) (rowK (L.map Rdg.row) i shR fun a b c d e g h i j l=>rowK (L.map Rdg.row) _ shR _) _=_
  rw [List.length_map,decide_eq_true (by omega),cK_true,rowR h1]
  show rowK (L.map Rdg.row) (i:Int) shR _=_
  rw [rowR h1]
  show cK (!((r.s == r.s) && ((r.a == r.a) && (((r.b == r.b) && ((r.c == r.c) && true)) && (((r.d == r.d) && ((r.e == r.e) && true)) && (((r.f == r.f) && ((r.g == r.g) && true)) && (((r.h == r.h) && ((r.i == r.i) && true)) && true))))))) _ (R25_0_0 α _ _ _ _ n (w64 ((i:Int)+1)))=_
  have hs:(r.s == r.s)=true:=by
   show (r.s.data == r.s.data)=true
   simp
  rw [hs]
  simp only [beq_self_eq_true,Bool.and_self,Bool.not_true,cK_false,hw2]
  exact R25_refl hL l n (i+1) h2 (by simp at hn;omega)
theorem f25_refl {l:List Rdg}(hl:l.length<=1000000){k:Bool->Option α}:f25_0 α (l.map Rdg.row) (l.map Rdg.row) k=k true:=by
 have hf:=fuel_ge
 show cK (((List.length (l.map Rdg.row):Nat):Int) != ((List.length (l.map Rdg.row):Nat):Int)) _ (R25_0_0 α (l.map Rdg.row) (l.map Rdg.row) (k false) (fun _ _=>k true) fuel 0)=_
 rw [bne_self_eq_false,cK_false]
 exact R25_refl hl l fuel 0 rfl (by omega)
end Go.AM.K
