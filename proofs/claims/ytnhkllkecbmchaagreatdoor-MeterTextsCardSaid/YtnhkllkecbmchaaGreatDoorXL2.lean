/- Chapter 6: names, checks of readings. -/
import Derived.Test.YtnhkllkecbmchaaGreatDoorXL1
namespace Go.AM.K
set_option linter.unusedVariables false
set_option linter.unusedSimpArgs false
variable {α:Type}
theorem tl_loop (bs:ByteArray):∀ (m i:Nat) (r:List UInt8),i+m=bs.size->ByteArray.toList.loop bs i r=r.reverse++bs.data.toList.drop i:=by
 intro m
 induction m with
 | zero=>
  intro i r h
  unfold ByteArray.toList.loop
  rw [if_neg (by omega),List.drop_eq_nil_of_le (by simp;show bs.size<=i;omega),List.append_nil]
 | succ m ih=>
  intro i r h
  unfold ByteArray.toList.loop
  have hi:i < bs.data.toList.length:=by simp;show i < bs.size;omega
  rw [if_pos (by omega),ih (i+1) _ (by omega),List.drop_eq_getElem_cons hi]
  have:bs.get! i=bs.data.toList[i]:=by
   show bs.data[i]! = _
   have h2:i < bs.data.size:=by show i < bs.size;omega
   rw [getElem!_pos bs.data i h2];simp
  rw [this]
  simp
theorem toList_data (bs:ByteArray):bs.toList=bs.data.toList:=by
 unfold ByteArray.toList
 rw [tl_loop bs bs.size 0 [] (by omega)];simp
theorem cK_bad {b c:Bool}{x y:Option α}:cK b x (if c=true then y else x)=if (!b && c)=true then y else x:=by cases b <;> cases c <;> rfl
theorem bytesR_len (s:ByteArray):(bytesR s).length=s.size:=by simp [bytesR]
theorem bytesR_get {s:ByteArray}{i:Nat}(h:i < s.data.toList.length):(bytesR s)[i]?=some [.v (.int .u8 (s.data.toList[i]'h).toNat)]:=by
 simp only [bytesR,List.getElem?_map,List.getElem?_eq_getElem h];rfl
theorem ix_byte {s:ByteArray}{i:Nat}(h:i < s.data.toList.length){x:Option α}:ixK (bytesR s) (i:Int) 1 x=x:=by
 have h1:=bytesR_get h
 have h2:i < (bytesR s).length:=by rw [bytesR_len];simpa using h
 unfold ixK
 have:rowAt (bytesR s) (i:Int).toNat=[.v (.int .u8 (s.data.toList[i]'h).toNat)]:=by
  simp [rowAt,List.getD_eq_getElem?_getD,h1]
 rw [decide_eq_true (by rw [this];exact⟨by omega,by omega,rfl⟩)]
theorem ld_byte {s:ByteArray}{i:Nat}(h:i < s.data.toList.length){f:Int->Option α}:ldK (bytesR s) (Int.toNat (i:Int)) 0 [.int .u8] f=f ((s.data.toList[i]'h).toNat:Int):=by
 have h1:=bytesR_get h
 have h2:i < (bytesR s).length:=by rw [bytesR_len];simpa using h
 unfold ldK
 have:rowAt (bytesR s) (i:Int).toNat=[.v (.int .u8 (s.data.toList[i]'h).toNat)]:=by
  simp [rowAt,List.getD_eq_getElem?_getD,h1]
 rw [decide_eq_true (show Int.toNat (i:Int) < (bytesR s).length by simpa using h2),this]
 rfl
theorem six_byte {s:ByteArray}{i:Nat}(h:i < s.data.toList.length){f:UInt8->Option α}:sixK s (i:Int) f=f (s.data.toList[i]'h):=by
 unfold sixK
 have h2:i < s.size:=by simpa using h
 have:s[(i:Int).toNat]?=some (s.data.toList[i]'h):=by
  rw [show (i:Int).toNat=i by omega,getElem?_pos s i h2]
  simp [ByteArray.getElem_eq_getElem_data]
 rw [if_pos (by omega),this]
def ltrB (c:Int):Bool:=(decide (97<=c) && decide (c<=122)) || (decide (65<=c) && decide (c<=90))
def badB (i c:Int)(l:Bool):Bool:=!l && ((i == 0) || ((c != 45) && (decide (c < 48) || decide (57 < c))))
theorem J219_0_eq {c:Int}{k:Bool->Option α}:J219_0_0 α c k=k (ltrB c):=by
 simp only [J219_0_0,J219_0_0g]
 unfold ltrB
 by_cases a:97<=c <;> by_cases b:c<=122 <;> by_cases d:65<=c <;> simp [a,b,d]
theorem J219_1_eq {i c:Int}{l:Bool}{k:Bool->Option α}:J219_0_1 α i c l k=k (badB i c l):=by
 simp only [J219_0_1,J219_0_1g]
 unfold badB
 cases l
 ·by_cases a:i=0
  ·rw [a];rfl
  ·have a':(i == 0)=false:=beq_eq_false_iff_ne.2 a
   rw [a']
   by_cases b:c=45
   ·rw [b];rfl
   ·have b':(c != 45)=true:=bne_iff_ne.2 b
    rw [b']
    by_cases d:c < 48 <;> simp [d]
 ·rfl
def nmAll:List UInt8->Nat->Bool
 | [],_=>true
 | b::r,i=>!badB (i:Int) (b.toNat:Int) (ltrB (b.toNat:Int)) && nmAll r (i+1)
def nmB (s:ByteArray):Bool:=nmAll s.data.toList 0 && (decide (1<=s.size) && decide (s.size<=12))
theorem R219_eq {s:ByteArray}(hs:s.size<=9223372036854775807){k1:Option α}{k2:Int->Bool->Option α}:∀ (m i n:Nat),i+m=s.size->m < n ->
  R219_0_2 α (s.size:Int) (bytesR s) k1 k2 n (i:Int)=if nmAll (s.data.toList.drop i) i=true then k2 (s.size:Int) false else k1:=by
 have hl:s.data.toList.length=s.size:=by simp
 intro m
 induction m with
 | zero=>
  intro i n h1 h2
  obtain⟨n,rfl⟩:∃ z,n=z+1:=⟨n - 1,by omega⟩
  rw [List.drop_eq_nil_of_le (by omega)]
  have hi:i=s.size:=by omega
  simp only [R219_0_2,S219_0_2,S219_0_2g,nmAll,if_true]
  rw [hi,decide_eq_false (by omega)];rfl
 | succ m ih=>
  intro i n h1 h2
  obtain⟨n,rfl⟩:∃ z,n=z+1:=⟨n - 1,by omega⟩
  have hi:i < s.data.toList.length:=by omega
  rw [List.drop_eq_getElem_cons hi]
  simp only [R219_0_2,S219_0_2,S219_0_2g,nmAll]
  rw [decide_eq_true (by omega),cK_true,ix_byte hi,ld_byte hi,J219_0_eq,J219_1_eq,w64_in (by omega) (by omega),show (i:Int)+1=((i+1:Nat):Int) by omega,ih (i+1) n (by omega) (by omega)]
  exact cK_bad
theorem f219_eq {s:ByteArray}(hs:s.size<=9223372036854775807){k:Bool->Option α}:f219_0 α s k=k (nmB s):=by
 have hf:=fuel_ge
 simp only [f219_0,f219_0g,L219_0_2,bytesR_len]
 rw [decide_eq_true hs,gK_true,show ((0:Int))=((0:Nat):Int) from rfl,R219_eq hs s.size 0 fuel (by omega) (by omega),List.drop_zero]
 unfold nmB
 cases nmAll s.data.toList 0
 ·rfl
 ·rw [if_pos rfl]
  have e:(s.toList == (⟨#[]⟩:ByteArray).toList)=decide (s.size=0):=by
   have:(s.toList == (⟨#[]⟩:ByteArray).toList)=(s.data.toList == []):=by rw [toList_data,toList_data]
   rw [this]
   by_cases h0:s.size=0
   ·have:s.data.toList=[]:=List.eq_nil_of_length_eq_zero (by rw [Array.length_toList];exact h0)
    rw [this,decide_eq_true h0];rfl
   ·rw [decide_eq_false h0]
    have:s.data.toList ≠ []:=fun h=>h0 (by have:=congrArg List.length h;simpa using this)
    exact beq_eq_false_iff_ne.2 this
  rw [e]
  by_cases h0:s.size=0
  ·simp [h0]
  ·rw [decide_eq_false h0,Bool.not_false,cK_true,decide_eq_true (show 1<=s.size by omega),Bool.true_and,Bool.true_and]
   congr 1
   exact decide_eq_decide.2 (by omega)
theorem J108_0_eq {c:Int}{k:Bool->Option α}:J108_0_0 α c k=k (ltrB c):=J219_0_eq
theorem J108_1_eq {i c:Int}{l:Bool}{k:Bool->Option α}:J108_0_1 α i c l k=k (badB i c l):=J219_1_eq
theorem R108_eq {s:ByteArray}(hs:s.size<=12){k1:Option α}{k2:Int->Bool->Option α}:∀ (m i n:Nat),i+m=s.size->m < n ->
  R108_0_2 α s k1 k2 n (i:Int)=if nmAll (s.data.toList.drop i) i=true then k2 (s.size:Int) false else k1:=by
 have hl:s.data.toList.length=s.size:=by simp
 intro m
 induction m with
 | zero=>
  intro i n h1 h2
  obtain⟨n,rfl⟩:∃ z,n=z+1:=⟨n - 1,by omega⟩
  rw [List.drop_eq_nil_of_le (by omega)]
  have hi:i=s.size:=by omega
  simp only [R108_0_2,S108_0_2,S108_0_2g,nmAll,if_true]
  rw [hi,decide_eq_false (by omega)];rfl
 | succ m ih=>
  intro i n h1 h2
  obtain⟨n,rfl⟩:∃ z,n=z+1:=⟨n - 1,by omega⟩
  have hi:i < s.data.toList.length:=by omega
  rw [List.drop_eq_getElem_cons hi]
  simp only [R108_0_2,S108_0_2,S108_0_2g,nmAll]
  rw [decide_eq_true (by omega),cK_true,six_byte hi,J108_0_eq,J108_1_eq,w64_in (by omega) (by omega),show (i:Int)+1=((i+1:Nat):Int) by omega,ih (i+1) n (by omega) (by omega)]
  exact cK_bad
theorem f108_eq {s:ByteArray}{k:Bool->Option α}:f108_0 α s k=k (nmB s):=by
 have hf:=fuel_ge
 simp only [f108_0,f108_0g,L108_0_2]
 unfold nmB
 by_cases h1:s.size < 1
 ·rw [decide_eq_true (by omega),cK_true,decide_eq_false (show ¬ 1<=s.size by omega),Bool.false_and,Bool.and_false]
 ·rw [decide_eq_false (by omega),cK_false,decide_eq_true (show 1<=s.size by omega),Bool.true_and]
  by_cases h2:12 < s.size
  ·rw [decide_eq_true (by omega),cK_true,decide_eq_false (show ¬ s.size<=12 by omega),Bool.and_false]
  ·rw [decide_eq_false (by omega),cK_false,decide_eq_true (show s.size<=12 by omega),Bool.and_true,show ((0:Int))=((0:Nat):Int) from rfl,R108_eq (by omega) s.size 0 fuel (by omega) (by omega),List.drop_zero]
   cases nmAll s.data.toList 0 <;> rfl
def plE (s:ByteArray)(w i n:Int):Int:=if nmB s=true then (if (1000<=w/\w<=200000)/\(5000<=i/\i<=80000)/\0<=n/\n<=9999 then 0 else 2) else 3
theorem plK {w i n:Int}{b:Bool}{k:Int->Option α}:cK (!b) (k 3) (cK (!decide (1000<=w/\w<=200000)) (k 2) (cK (!decide (5000<=i/\i<=80000)) (k 2) (cK (!decide (0<=n/\n<=9999)) (k 2) (k 0))))=k (if b=true then (if (1000<=w/\w<=200000)/\(5000<=i/\i<=80000)/\0<=n/\n<=9999 then 0 else 2) else 3):=by
 cases b
 ·rfl
 ·rw [Bool.not_true,cK_false,if_pos rfl]
  by_cases a:1000<=w/\w<=200000
  ·by_cases b:5000<=i/\i<=80000
   ·by_cases c:0<=n/\n<=9999
    ·rw [decide_eq_true a,decide_eq_true b,decide_eq_true c,if_pos ⟨a,b,c⟩];rfl
    ·rw [decide_eq_true a,decide_eq_true b,decide_eq_false c,if_neg (fun h=>c h.2.2)];rfl
   ·rw [decide_eq_true a,decide_eq_false b,if_neg (fun h=>b h.2.1)];rfl
  ·rw [decide_eq_false a,if_neg (fun h=>a h.1)];rfl
theorem f124_eq {s:ByteArray}(hs:s.size<=9223372036854775807){w i n:Int}{k:Int->Option α}:f124_0 α s w i n k=k (plE s w i n):=by
 simp only [f124_0,f124_0g,f219_eq hs,f215_eq]
 exact plK
theorem f79_eq {s:ByteArray}{w i n:Int}{k:Int->Option α}:f79_0 α s w i n k=k (plE s w i n):=by
 simp only [f79_0,f79_0g,f108_eq,f44_eq]
 exact plK
def rdE (s:ByteArray)(w i n a b c d e f:Int):Int:=if plE s w i n ≠ 0 then plE s w i n else fst3 (rgE 1048576 a b) (rgE 1048576 c d) (rgE 1048576 e f)
theorem f82_eq {s:ByteArray}(hs:s.size<=9223372036854775807){w i n a b c d e f:Int}{k:Int->Option α}:f82_0 α s w i n a b c d e f k=k (rdE s w i n a b c d e f):=by
 simp only [f82_0,f82_0g,f124_eq hs,cK_ne]
 unfold rdE
 split
 ·rfl
 ·exact f174_3 (by decide) (by decide)
theorem rgK1 {lo hi:Int}{k:Int->Option α}{x:Option α}:(cK (!decide (-1048576<=lo/\lo<=1048576)) (k 2) (cK (!decide (-1048576<=hi/\hi<=1048576)) (k 2) (cK (decide (hi < lo)) (k 10) x)))=if rgE 1048576 lo hi ≠ 0 then k (rgE 1048576 lo hi) else x:=by
 by_cases a:-1048576<=lo/\lo<=1048576
 ·by_cases b:-1048576<=hi/\hi<=1048576
  ·by_cases c:hi < lo
   ·have e:rgE 1048576 lo hi=10:=by unfold rgE;rw [if_pos ⟨a,b⟩,if_pos c]
    rw [decide_eq_true a,decide_eq_true b,decide_eq_true c,e];rfl
   ·have e:rgE 1048576 lo hi=0:=by unfold rgE;rw [if_pos ⟨a,b⟩,if_neg c]
    rw [decide_eq_true a,decide_eq_true b,decide_eq_false c,e];rfl
  ·have e:rgE 1048576 lo hi=2:=by unfold rgE;rw [if_neg (fun h=>b h.2)]
   rw [decide_eq_true a,decide_eq_false b,e];rfl
 ·have e:rgE 1048576 lo hi=2:=by unfold rgE;rw [if_neg (fun h=>a h.1)]
  rw [decide_eq_false a,e];rfl
theorem f18_eq {s:ByteArray}{w i n a b c d e f:Int}{k:Int->Option α}:f18_0 α s w i n a b c d e f k=k (rdE s w i n a b c d e f):=by
 obtain⟨z,hz⟩:∃ z,fuel=z+4:=⟨fuel - 4,by have:=fuel_ge;omega⟩
 simp only [f18_0,f18_0g,f79_eq,cK_ne,f80_0,f80_0g,L18_0_2,hz,R18_0_2,S18_0_2,S18_0_2g]
 unfold rdE
 split
 ·rfl
 ·rw [show decide ((0:Int) < 3)=true by decide,show w64 (0+1)=1 by decide,show decide ((1:Int) < 3)=true by decide,show w64 (1+1)=2 by decide,show decide ((2:Int) < 3)=true by decide,show w64 (2+1)=3 by decide,show decide ((3:Int) < 3)=false by decide]
  simp only [cK_true,cK_false,J18_0_0,J18_0_0g,J18_0_1,J18_0_1g,Int.reduceBEq,f44_eq,rgK1]
  unfold fst3
  by_cases h:rgE 1048576 a b=0
  ·rw [h]
   by_cases h':rgE 1048576 c d=0
   ·rw [h']
    by_cases h'':rgE 1048576 e f=0
    ·rw [h''];rfl
    ·simp [h'']
   ·simp [h']
  ·simp [h]
theorem rdE_ok {s:ByteArray}{w i n a b c d e f:Int}(h:rdE s w i n a b c d e f=0):plE s w i n=0/\((-1048576<=a/\a<=1048576)/\(-1048576<=b/\b<=1048576)/\a<=b)/\((-1048576<=c/\c<=1048576)/\(-1048576<=d/\d<=1048576)/\c<=d)/\(-1048576<=e/\e<=1048576)/\(-1048576<=f/\f<=1048576)/\e<=f:=by
 unfold rdE at h
 by_cases hp:plE s w i n=0
 ·rw [if_neg (fun hh=>hh hp)] at h
  unfold fst3 at h
  rcases rgE_cases 1048576 a b with ⟨h1,h2⟩ | h1 | h1 <;> rcases rgE_cases 1048576 c d with ⟨h3,h4⟩ | h3 | h3 <;> rcases rgE_cases 1048576 e f with ⟨h5,h6⟩ | h5 | h5 <;> rw [h1,h3,h5] at h <;> simp at h
  exact⟨hp,h2,h4,h6⟩
 ·rw [if_pos hp] at h;exact absurd h hp
end Go.AM.K
