/- Readings: their text, their words. -/
import Derived.Test.YtnhkllkecbmchaaGreatDoorTX1
namespace Go.AM.K
open Go.LT
set_option linter.unusedVariables false
set_option linter.unusedSimpArgs false
variable {α:Type}
structure Rdg where
 s:ByteArray
 a:Int
 b:Int
 c:Int
 d:Int
 e:Int
 f:Int
 g:Int
 h:Int
 i:Int
def Rdg.row (r:Rdg):List DC:=[.v (.string r.s),.v (.int .i64 r.a),.v (.int .i64 r.b),.v (.int .i64 r.c),.v (.int .i64 r.d),.v (.int .i64 r.e),.v (.int .i64 r.f),.v (.int .i64 r.g),.v (.int .i64 r.h),.v (.int .i64 r.i)]
def Rdg.In (r:Rdg):Prop:=in64 r.a/\in64 r.b/\in64 r.c/\in64 r.d/\in64 r.e/\in64 r.f/\in64 r.g/\in64 r.h/\in64 r.i
def Rdg.err (r:Rdg):Int:=rdE r.s r.a r.b r.c r.d r.e r.f r.g r.h r.i
def Rdg.ns (r:Rdg):List Int:=[r.a,r.b,r.c,r.d,r.e,r.f,r.g,r.h,r.i]
def Rdg.ws (r:Rdg):List (List UInt8):=r.s.data.toList::r.ns.map Lib.itoa
def Rdg.txt (r:Rdg):List UInt8:=Lib.join r.ws [32]
abbrev Tk (α:Type):Type:=ByteArray->Int->Int->Int->Int->Int->Int->Int->Int->Int->α
abbrev Rdg.ap {β:Type}(r:Rdg)(k:Tk β):β:=k r.s r.a r.b r.c r.d r.e r.f r.g r.h r.i
theorem Rdg.txt_len {r:Rdg}{B:Nat}(hB:21<=B)(hs:r.s.size<=B)(h:r.In):r.txt.length<=10*B+9:=by
 obtain⟨h1,h2,h3,h4,h5,h6,h7,h8,h9⟩:=h
 have il:∀ n,in64 n->(Lib.itoa n).length<=B:=fun n hn=>Nat.le_trans (Lib.itoa_length_le n hn.1 hn.2) hB
 have:=join_len r.s.data.toList (r.ns.map Lib.itoa) (B:=B) (by simpa using hs) (fun l hl=>by
  simp only [Rdg.ns,List.map_cons,List.map_nil,List.mem_cons,List.not_mem_nil,or_false] at hl
  rcases hl with rfl | rfl | rfl | rfl | rfl | rfl | rfl | rfl | rfl
  ·exact il _ h1
  ·exact il _ h2
  ·exact il _ h3
  ·exact il _ h4
  ·exact il _ h5
  ·exact il _ h6
  ·exact il _ h7
  ·exact il _ h8
  ·exact il _ h9)
 refine Nat.le_trans this ?_
 simp [Rdg.ns];omega
theorem f16_eq {r:Rdg}(hs:r.s.size<=100000)(h:r.In){k:ByteArray->Option α}:f16_0 α r.s r.a r.b r.c r.d r.e r.f r.g r.h r.i k=k (mkB r.txt):=by
 have hl:=Rdg.txt_len (B:=100000) (by omega) hs h
 obtain⟨h1,h2,h3,h4,h5,h6,h7,h8,h9⟩:=h
 simp only [f16_0,f16_0g,f61_eq h1.1 h1.2,f61_eq h2.1 h2.2,f61_eq h3.1 h3.2,f61_eq h4.1 h4.2,f61_eq h5.1 h5.2,f61_eq h6.1 h6.2,f61_eq h7.1 h7.2,f61_eq h8.1 h8.2,f61_eq h9.1 h9.2]
 have e1:(r.s::r.ns.map (fun n=>mkB (Lib.itoa n))).map (fun x:ByteArray=>x.data.toList)=r.ws:=by simp [Rdg.ws]
 show fJoin α (strRows (r.s::r.ns.map (fun n=>mkB (Lib.itoa n)))) (⟨#[32]⟩:ByteArray) _=_
 unfold fJoin
 have e2:(⟨#[32]⟩:ByteArray).data.toList=[32]:=rfl
 rw [strsOf_rows]
 simp only []
 rw [e1,if_pos (show jnOk (r.s::r.ns.map (fun n=>mkB (Lib.itoa n))) ⟨#[32]⟩=true from decide_eq_true ⟨by simp [Rdg.ns],by rw [e1,e2];exact Nat.le_trans hl (by decide)⟩)]
 rfl
theorem piece {n:Int}(hn:in64 n){l:List UInt8}(hl:l.length<=1000000){k:ByteArray->Option α} :
  gK (!decide (IntKind.i64.max < ((ByteArray.size (mkB l)+ByteArray.size (⟨#[32]⟩:ByteArray):Nat):Int))) (f69_0 α n fun d=>gK (!decide (IntKind.i64.max < ((ByteArray.size (mkB l++(⟨#[32]⟩:ByteArray))+ByteArray.size d:Nat):Int))) (k ((mkB l++(⟨#[32]⟩:ByteArray))++d)))=k (mkB (l++32::Lib.itoa n)):=by
 have il:=Lib.itoa_length_le n hn.1 hn.2
 rw [f69_eq hn.1 hn.2,show (⟨#[32]⟩:ByteArray)=mkB [32] from rfl,mkB_app,mkB_app]
 have m:IntKind.max .i64=9223372036854775807:=rfl
 rw [gK_of (by rw [size_mkB,size_mkB,m];simp;omega),gK_of (by rw [size_mkB,size_mkB,m];simp;omega)]
 simp
theorem f17_eq {r:Rdg}(hs:r.s.size<=100000)(h:r.In){k:ByteArray->Option α}:f17_0 α r.s r.a r.b r.c r.d r.e r.f r.g r.h r.i k=k (mkB r.txt):=by
 obtain⟨h1,h2,h3,h4,h5,h6,h7,h8,h9⟩:=h
 obtain⟨m,hm⟩:∃ m,fuel=m+10:=⟨fuel - 10,by have:=fuel_ge;omega⟩
 have il:∀ n,in64 n->(Lib.itoa n).length<=21:=fun n hn=>Lib.itoa_length_le n hn.1 hn.2
 have i1:=il _ h1
 have i2:=il _ h2
 have i3:=il _ h3
 have i4:=il _ h4
 have i5:=il _ h5
 have i6:=il _ h6
 have i7:=il _ h7
 have i8:=il _ h8
 have i9:=il _ h9
 have hsz:r.s.data.toList.length=r.s.size:=by simp
 have e0:r.s=mkB r.s.data.toList:=(mkB_data _).symm
 show R17_0_1 α r.a r.b r.c r.d r.e r.f r.g r.h r.i (fun o p q=>k o) fuel r.s 0=_
 rw [hm,e0]
 have fin:r.txt=((((((((r.s.data.toList++32::Lib.itoa r.a)++32::Lib.itoa r.b)++32::Lib.itoa r.c)++32::Lib.itoa r.d)++32::Lib.itoa r.e)++32::Lib.itoa r.f)++32::Lib.itoa r.g)++32::Lib.itoa r.h)++32::Lib.itoa r.i:=by
  simp [Rdg.txt,Rdg.ws,Rdg.ns,Lib.join_cons,Lib.joinTail]
 rw [fin]
 generalize r.s.data.toList=l at hsz ⊢
 have st:∀ (n:Nat) (x:ByteArray) (t:Int),R17_0_1 α r.a r.b r.c r.d r.e r.f r.g r.h r.i (fun o p q=>k o) (n+1) x t=cK (decide (t < 9)) (J17_0_0 α x t r.a r.b r.c r.d r.e r.f r.g r.h r.i (fun p=>R17_0_1 α r.a r.b r.c r.d r.e r.f r.g r.h r.i (fun o p q=>k o) n p (w64 (t+1)))) (k x):=fun _ _ _=>rfl
 have j0:∀ (x:List UInt8) (kk:ByteArray->Option α),x.length<=1000000->J17_0_0 α (mkB x) 0 r.a r.b r.c r.d r.e r.f r.g r.h r.i kk=kk (mkB (x++32::Lib.itoa r.a)):=fun x kk hx=>piece h1 hx
 have j1:∀ (x:List UInt8) (kk:ByteArray->Option α),x.length<=1000000->J17_0_0 α (mkB x) 1 r.a r.b r.c r.d r.e r.f r.g r.h r.i kk=kk (mkB (x++32::Lib.itoa r.b)):=fun x kk hx=>piece h2 hx
 have j2:∀ (x:List UInt8) (kk:ByteArray->Option α),x.length<=1000000->J17_0_0 α (mkB x) 2 r.a r.b r.c r.d r.e r.f r.g r.h r.i kk=kk (mkB (x++32::Lib.itoa r.c)):=fun x kk hx=>piece h3 hx
 have j3:∀ (x:List UInt8) (kk:ByteArray->Option α),x.length<=1000000->J17_0_0 α (mkB x) 3 r.a r.b r.c r.d r.e r.f r.g r.h r.i kk=kk (mkB (x++32::Lib.itoa r.d)):=fun x kk hx=>piece h4 hx
 have j4:∀ (x:List UInt8) (kk:ByteArray->Option α),x.length<=1000000->J17_0_0 α (mkB x) 4 r.a r.b r.c r.d r.e r.f r.g r.h r.i kk=kk (mkB (x++32::Lib.itoa r.e)):=fun x kk hx=>piece h5 hx
 have j5:∀ (x:List UInt8) (kk:ByteArray->Option α),x.length<=1000000->J17_0_0 α (mkB x) 5 r.a r.b r.c r.d r.e r.f r.g r.h r.i kk=kk (mkB (x++32::Lib.itoa r.f)):=fun x kk hx=>piece h6 hx
 have j6:∀ (x:List UInt8) (kk:ByteArray->Option α),x.length<=1000000->J17_0_0 α (mkB x) 6 r.a r.b r.c r.d r.e r.f r.g r.h r.i kk=kk (mkB (x++32::Lib.itoa r.g)):=fun x kk hx=>piece h7 hx
 have j7:∀ (x:List UInt8) (kk:ByteArray->Option α),x.length<=1000000->J17_0_0 α (mkB x) 7 r.a r.b r.c r.d r.e r.f r.g r.h r.i kk=kk (mkB (x++32::Lib.itoa r.h)):=fun x kk hx=>piece h8 hx
 have j8:∀ (x:List UInt8) (kk:ByteArray->Option α),x.length<=1000000->J17_0_0 α (mkB x) 8 r.a r.b r.c r.d r.e r.f r.g r.h r.i kk=kk (mkB (x++32::Lib.itoa r.i)):=fun x kk hx=>piece h9 hx
 rw [st,show decide ((0:Int) < 9)=true from rfl,cK_true,j0 _ _ (by omega),show w64 (0+1)=1 from rfl]
 rw [st,show decide ((1:Int) < 9)=true from rfl,cK_true,j1 _ _ (by simp;omega),show w64 (1+1)=2 from rfl]
 rw [st,show decide ((2:Int) < 9)=true from rfl,cK_true,j2 _ _ (by simp;omega),show w64 (2+1)=3 from rfl]
 rw [st,show decide ((3:Int) < 9)=true from rfl,cK_true,j3 _ _ (by simp;omega),show w64 (3+1)=4 from rfl]
 rw [st,show decide ((4:Int) < 9)=true from rfl,cK_true,j4 _ _ (by simp;omega),show w64 (4+1)=5 from rfl]
 rw [st,show decide ((5:Int) < 9)=true from rfl,cK_true,j5 _ _ (by simp;omega),show w64 (5+1)=6 from rfl]
 rw [st,show decide ((6:Int) < 9)=true from rfl,cK_true,j6 _ _ (by simp;omega),show w64 (6+1)=7 from rfl]
 rw [st,show decide ((7:Int) < 9)=true from rfl,cK_true,j7 _ _ (by simp;omega),show w64 (7+1)=8 from rfl]
 rw [st,show decide ((8:Int) < 9)=true from rfl,cK_true,j8 _ _ (by simp;omega),show w64 (8+1)=9 from rfl]
 rw [st];rfl
end Go.AM.K
