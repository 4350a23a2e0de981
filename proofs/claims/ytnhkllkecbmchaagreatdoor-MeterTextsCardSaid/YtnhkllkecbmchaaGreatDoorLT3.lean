/- Plain rules of texts in readable functions: bytes, rows of texts, words that are numbers. -/
import Derived.Test.YtnhkllkecbmchaaGreatDoorLBa
import Derived.Test.YtnhkllkecbmchaaGreatDoorLT2
import Derived.Test.YtnhkllkecbmchaaGreatDoorKNa
import Derived.Lib.ItoaLen
namespace Go.AM
open Go.LT
variable {α:Type}
abbrev mkB (l:List UInt8):ByteArray:=⟨l.toArray⟩
theorem mkB_data (s:ByteArray):mkB s.data.toList=s:=rfl
theorem data_mkB (l:List UInt8):(mkB l).data.toList=l:=by simp
theorem size_mkB (l:List UInt8):(mkB l).size=l.length:=by simp [ByteArray.size]
theorem mkB_app (a b:List UInt8):mkB a++mkB b=mkB (a++b):=by
 apply ByteArray.ext
 rw [ByteArray.data_append]
 simp
theorem app_mkB {a:ByteArray}{b:List UInt8}:a++mkB b=mkB (a.data.toList++b):=by rw [<- mkB_app]
theorem toList_eq (a b:ByteArray):(a.toList == b.toList)=decide (a.data.toList=b.data.toList):=by
 rw [ByteArray.toList_eq,ByteArray.toList_eq]
 by_cases h:a.data.toList=b.data.toList
 ·rw [h,decide_eq_true rfl];simp
 ·rw [decide_eq_false h];exact beq_eq_false_iff_ne.2 h
theorem mkB_extract (s:ByteArray)(a b:Nat):ByteArray.extract s a b=mkB ((s.data.toList.drop a).take (b - a)):=by
 rw [<- Lib.extract_data,mkB_data]
theorem strOf_one (z:Int):strOf [z]=mkB [UInt8.ofNat z.toNat]:=by
 simp only [strOf,List.foldl_cons,List.foldl_nil]
 apply ByteArray.ext
 simp [ByteArray.push]
theorem six_at {s:ByteArray}{i:Nat}{b:UInt8}(h:s.data.toList[i]?=some b){f:UInt8->Option α}:sixK s (i:Int) f=f b:=by
 obtain⟨hl,he⟩:=List.getElem?_eq_some_iff.1 h
 unfold sixK
 have h2:i < s.size:=by simpa using hl
 have:s[(i:Int).toNat]?=some b:=by
  rw [show (i:Int).toNat=i by omega,getElem?_pos s i h2,<- he]
  simp [ByteArray.getElem_eq_getElem_data]
 rw [if_pos (by omega),this]
theorem strRows_len (l:List ByteArray):(strRows l).length=l.length:=by simp [strRows]
theorem strRows_app (l:List ByteArray)(x:ByteArray):strRows l++[[DC.v (.string x)]]=strRows (l++[x]):=by simp [strRows]
theorem ix_str {l:List ByteArray}{i:Nat}(h:i < l.length){x:Option α}:ixK (strRows l) (i:Int) 1 x=x:=by
 unfold ixK
 have:rowAt (strRows l) (i:Int).toNat=[.v (.string (l[i]'h))]:=by simp [rowAt,strRows,List.getD_eq_getElem?_getD,h]
 rw [decide_eq_true (by rw [this,strRows_len];exact⟨by omega,by omega,rfl⟩)]
theorem ld_str {l:List ByteArray}{i:Nat}(h:i < l.length){f:ByteArray->Option α}:ldK (strRows l) i 0 [.str] f=f (l[i]'h):=by
 unfold ldK
 have:rowAt (strRows l) i=[.v (.string (l[i]'h))]:=by simp [rowAt,strRows,List.getD_eq_getElem?_getD,h]
 rw [decide_eq_true (show i < (strRows l).length by rw [strRows_len];exact h),this]
 rfl
theorem ap_str {l:List ByteArray}{x:ByteArray}(h:l.length < 1000000):apOk 1 16 (strRows l) [[DC.v (.string x)]]=true:=by
 unfold apOk
 rw [strRows_len]
 refine decide_eq_true ⟨rfl,?_,?_⟩ <;> simp <;> omega
theorem atoiAll_range {l:List UInt8}{v:Int}(h:Lib.atoiAll l=.ok v):-9223372036854775808<=v/\v<=9223372036854775807:=by
 unfold Lib.atoiAll at h
 split at h
 ·cases h
 ·dsimp only at h
  split at h
  ·cases h
  ·cases h
  ·split at h
   ·cases h
   ·split at h
    ·cases h
    ·rename_i h1 h2
     injection h with h
     split at h <;> omega
theorem word_law {x:ByteArray}(hx:x.size<=281474976710656){k1:Option α}{f:Int->Option α} :
  fAtoi α x (fun v=>fItoa α v fun t=>cK (!(t.toList == x.toList)) k1 (fTrim α x (⟨#[45]⟩:ByteArray) fun u=>cK (decide (7 < ((ByteArray.size u:Nat):Int))) k1 (f v))) (fun _=>k1)=
   match num? x.data.toList with
   | some v=>f v
   | none=>k1:=by
 rw [<- word_eq]
 unfold fAtoi word?
 rw [if_pos hx]
 cases ha:Lib.atoiAll x.data.toList with
 | range=>rfl
 | ok v=>
  have hr:=atoiAll_range ha
  simp only [fItoa,if_pos hr,toList_eq,fTrim]
  by_cases hi:Lib.itoa v=x.data.toList
  ·rw [decide_eq_true hi,if_pos hi]
   simp only [Bool.not_true,cK_false]
   have hz:∀ l:List UInt8,cK (decide (7 < ((ByteArray.size (mkB l):Nat):Int))) k1 (f v)=match (if l.length<=7 then some v else none) with | some v=>f v | none=>k1:=fun l=>by
    by_cases h7:l.length<=7
    ·rw [if_pos h7,decide_eq_false (by rw [size_mkB];omega)];rfl
    ·rw [if_neg h7,decide_eq_true (by rw [size_mkB];omega)];rfl
   exact hz (Lib.trimPrefix x.data.toList [45])
  ·rw [decide_eq_false hi,if_neg hi]
   rfl
 | _=>rfl
end Go.AM
