/- Readings: their words read, by the document and by the program. -/
import Derived.Test.YtnhkllkecbmchaaGreatDoorTX2
namespace Go.AM.K
open Go.LT
set_option linter.unusedVariables false
set_option linter.unusedSimpArgs false
variable {α:Type}
def rd:List ByteArray->Option Rdg
 | [x0,x1,x2,x3,x4,x5,x6,x7,x8,x9]=>(num? x1.data.toList).bind fun v1=>(num? x2.data.toList).bind fun v2=>(num? x3.data.toList).bind fun v3=>(num? x4.data.toList).bind fun v4=>(num? x5.data.toList).bind fun v5=>(num? x6.data.toList).bind fun v6=>(num? x7.data.toList).bind fun v7=>(num? x8.data.toList).bind fun v8=>(num? x9.data.toList).bind fun v9=>some ⟨x0,v1,v2,v3,v4,v5,v6,v7,v8,v9⟩
 | _=>none
theorem rd_len {ws:List ByteArray}(h:ws.length ≠ 10):rd ws=none:=by
 unfold rd
 split
 ·exact absurd rfl h
 ·rfl
def bad (k:Tk (Int->Option α))(e:Int):Option α:=k ⟨#[]⟩ 0 0 0 0 0 0 0 0 0 e
def told (k:Tk (Int->Option α)):Option Rdg->Option α
 | none=>bad k 4
 | some r=>if r.err ≠ 0 then bad k r.err else r.ap k 0
theorem n7 {x:ByteArray}(hx:x.size < 100000){k1:Option α}{f:Int->Option α}:f68_0 α x 7 (fun b r=>cK (!r) k1 (f b))=match num? x.data.toList with | some v=>f v | none=>k1:=by
 rw [f68_eq hx];cases num? x.data.toList <;> rfl
theorem word' {x:ByteArray}(hx:x.size < 100000){k1:Option α}{f:Int->Option α}:f63_0 α x (fun v=>f61_0 α v fun t=>cK (!(t.toList == x.toList)) k1 (f64_0 α x (⟨#[45]⟩:ByteArray) fun u=>cK (decide (7 < ((ByteArray.size u:Nat):Int))) k1 (f v))) (fun _=>k1)=match num? x.data.toList with | some v=>f v | none=>k1:=word_law (by omega)
theorem has_mem (c:UInt8):∀ l:List UInt8,decide (0<=Lib.indexByte l c)=decide (c ∈ l)
 | []=>by simp [Lib.indexByte]
 | b::l=>by
  have ih:=has_mem c l
  have hg:=Lib.indexByte_ge l c
  unfold Lib.indexByte
  by_cases hb:b=c
  ·subst hb;simp
  ·rw [if_neg (by simpa using hb)]
   have:decide (c ∈ b::l)=decide (c ∈ l):=by
    have:¬ c=b:=fun h=>hb h.symm
    simp [this]
   rw [this,<- ih]
   by_cases h1:Lib.indexByte l c=-1
   ·rw [h1];rfl
   ·rw [if_neg (by simpa using h1),decide_eq_true (by omega),decide_eq_true (by omega)]
theorem f173_eq {x:ByteArray}{k:Bool->Option α}:f173_0 α x (⟨#[10]⟩:ByteArray) k=k (decide (10 ∈ x.data.toList)):=by
 show k (decide (0<=Lib.indexByte x.data.toList 10))=_
 rw [has_mem]
theorem f83_eq {ws:List ByteArray}(hw:∀ x ∈ ws,x.size < 100000){k:Tk (Int->Option α)}:f83_0 α (strRows ws) k=told k (rd ws):=by
 by_cases h10:ws.length=10
 ·match ws,h10 with
  | [x0,x1,x2,x3,x4,x5,x6,x7,x8,x9],_=>
   have h0:=hw x0 (by simp)
   have h1:=hw x1 (by simp)
   have h2:=hw x2 (by simp)
   have h3:=hw x3 (by simp)
   have h4:=hw x4 (by simp)
   have h5:=hw x5 (by simp)
   have h6:=hw x6 (by simp)
   have h7:=hw x7 (by simp)
   have h8:=hw x8 (by simp)
   have h9:=hw x9 (by simp)
   obtain⟨m,hm⟩:∃ m,fuel=m+10:=⟨fuel - 10,by have:=fuel_ge;omega⟩
   generalize hR:strRows [x0,x1,x2,x3,x4,x5,x6,x7,x8,x9]=R
   have r0:∀ (f:ByteArray->Option α),rowK R 0 [.str] f=f x0:=fun f=>by subst hR;rfl
   have r1:∀ (f:ByteArray->Option α),rowK R (w64 (0+1)) [.str] f=f x1:=fun f=>by subst hR;rfl
   have r2:∀ (f:ByteArray->Option α),rowK R (w64 (1+1)) [.str] f=f x2:=fun f=>by subst hR;rfl
   have r3:∀ (f:ByteArray->Option α),rowK R (w64 (2+1)) [.str] f=f x3:=fun f=>by subst hR;rfl
   have r4:∀ (f:ByteArray->Option α),rowK R (w64 (3+1)) [.str] f=f x4:=fun f=>by subst hR;rfl
   have r5:∀ (f:ByteArray->Option α),rowK R (w64 (4+1)) [.str] f=f x5:=fun f=>by subst hR;rfl
   have r6:∀ (f:ByteArray->Option α),rowK R (w64 (5+1)) [.str] f=f x6:=fun f=>by subst hR;rfl
   have r7:∀ (f:ByteArray->Option α),rowK R (w64 (6+1)) [.str] f=f x7:=fun f=>by subst hR;rfl
   have r8:∀ (f:ByteArray->Option α),rowK R (w64 (7+1)) [.str] f=f x8:=fun f=>by subst hR;rfl
   have r9:∀ (f:ByteArray->Option α),rowK R (w64 (8+1)) [.str] f=f x9:=fun f=>by subst hR;rfl
   have st:∀ (n:Nat) (t a b c d e f g h i:Int) (k1:Option α) (k2:Int->Bool->Int->Int->Int->Int->Int->Int->Int->Int->Int->Option α),R83_0_1 α R k1 k2 (n+1) t a b c d e f g h i=cK (decide (t < 9)) (J83_0_0 α R t a b c d e f g h i k1 (fun a b c d e f g h i=>R83_0_1 α R k1 k2 n (w64 (t+1)) a b c d e f g h i)) (k2 t (decide (t < 9)) a b c d e f g h i):=fun _ _ _ _ _ _ _ _ _ _ _ _ _=>rfl
   have j0:∀ (a b c d e f g h i:Int) (k1:Option α) (k2:Int->Int->Int->Int->Int->Int->Int->Int->Int->Option α),J83_0_0 α R 0 a b c d e f g h i k1 k2=match num? x1.data.toList with | some v=>k2 v b c d e f g h i | none=>k1:=fun a b c d e f g h i k1 k2=>(r1 _).trans (n7 (f:=fun v=>k2 v b c d e f g h i) h1)
   have j1:∀ (a b c d e f g h i:Int) (k1:Option α) (k2:Int->Int->Int->Int->Int->Int->Int->Int->Int->Option α),J83_0_0 α R 1 a b c d e f g h i k1 k2=match num? x2.data.toList with | some v=>k2 a v c d e f g h i | none=>k1:=fun a b c d e f g h i k1 k2=>(r2 _).trans (n7 (f:=fun v=>k2 a v c d e f g h i) h2)
   have j2:∀ (a b c d e f g h i:Int) (k1:Option α) (k2:Int->Int->Int->Int->Int->Int->Int->Int->Int->Option α),J83_0_0 α R 2 a b c d e f g h i k1 k2=match num? x3.data.toList with | some v=>k2 a b v d e f g h i | none=>k1:=fun a b c d e f g h i k1 k2=>(r3 _).trans (n7 (f:=fun v=>k2 a b v d e f g h i) h3)
   have j3:∀ (a b c d e f g h i:Int) (k1:Option α) (k2:Int->Int->Int->Int->Int->Int->Int->Int->Int->Option α),J83_0_0 α R 3 a b c d e f g h i k1 k2=match num? x4.data.toList with | some v=>k2 a b c v e f g h i | none=>k1:=fun a b c d e f g h i k1 k2=>(r4 _).trans (n7 (f:=fun v=>k2 a b c v e f g h i) h4)
   have j4:∀ (a b c d e f g h i:Int) (k1:Option α) (k2:Int->Int->Int->Int->Int->Int->Int->Int->Int->Option α),J83_0_0 α R 4 a b c d e f g h i k1 k2=match num? x5.data.toList with | some v=>k2 a b c d v f g h i | none=>k1:=fun a b c d e f g h i k1 k2=>(r5 _).trans (n7 (f:=fun v=>k2 a b c d v f g h i) h5)
   have j5:∀ (a b c d e f g h i:Int) (k1:Option α) (k2:Int->Int->Int->Int->Int->Int->Int->Int->Int->Option α),J83_0_0 α R 5 a b c d e f g h i k1 k2=match num? x6.data.toList with | some v=>k2 a b c d e v g h i | none=>k1:=fun a b c d e f g h i k1 k2=>(r6 _).trans (n7 (f:=fun v=>k2 a b c d e v g h i) h6)
   have j6:∀ (a b c d e f g h i:Int) (k1:Option α) (k2:Int->Int->Int->Int->Int->Int->Int->Int->Int->Option α),J83_0_0 α R 6 a b c d e f g h i k1 k2=match num? x7.data.toList with | some v=>k2 a b c d e f v h i | none=>k1:=fun a b c d e f g h i k1 k2=>(r7 _).trans (n7 (f:=fun v=>k2 a b c d e f v h i) h7)
   have j7:∀ (a b c d e f g h i:Int) (k1:Option α) (k2:Int->Int->Int->Int->Int->Int->Int->Int->Int->Option α),J83_0_0 α R 7 a b c d e f g h i k1 k2=match num? x8.data.toList with | some v=>k2 a b c d e f g v i | none=>k1:=fun a b c d e f g h i k1 k2=>(r8 _).trans (n7 (f:=fun v=>k2 a b c d e f g v i) h8)
   have j8:∀ (a b c d e f g h i:Int) (k1:Option α) (k2:Int->Int->Int->Int->Int->Int->Int->Int->Int->Option α),J83_0_0 α R 8 a b c d e f g h i k1 k2=match num? x9.data.toList with | some v=>k2 a b c d e f g h v | none=>k1:=fun a b c d e f g h i k1 k2=>(r9 _).trans (n7 (f:=fun v=>k2 a b c d e f g h v) h9)
   have hlen:(((List.length R:Nat):Int) != 10)=false:=by subst hR;rfl
   show cK (((List.length R:Nat):Int) != 10) _ (R83_0_1 α R _ _ fuel 0 0 0 0 0 0 0 0 0 0)=_
   rw [hlen,cK_false,hm]
   rw [st,show decide ((0:Int) < 9)=true from rfl,cK_true,j0,show w64 (0+1)=1 from rfl]
   cases e1:num? x1.data.toList with
   | none=>
    rw [show rd [x0,x1,x2,x3,x4,x5,x6,x7,x8,x9]=none by simp [rd,e1]];rfl
   | some v1=>
   simp only []
   rw [st,show decide ((1:Int) < 9)=true from rfl,cK_true,j1,show w64 (1+1)=2 from rfl]
   cases e2:num? x2.data.toList with
   | none=>
    rw [show rd [x0,x1,x2,x3,x4,x5,x6,x7,x8,x9]=none by simp [rd,e1,e2]];rfl
   | some v2=>
   simp only []
   rw [st,show decide ((2:Int) < 9)=true from rfl,cK_true,j2,show w64 (2+1)=3 from rfl]
   cases e3:num? x3.data.toList with
   | none=>
    rw [show rd [x0,x1,x2,x3,x4,x5,x6,x7,x8,x9]=none by simp [rd,e1,e2,e3]];rfl
   | some v3=>
   simp only []
   rw [st,show decide ((3:Int) < 9)=true from rfl,cK_true,j3,show w64 (3+1)=4 from rfl]
   cases e4:num? x4.data.toList with
   | none=>
    rw [show rd [x0,x1,x2,x3,x4,x5,x6,x7,x8,x9]=none by simp [rd,e1,e2,e3,e4]];rfl
   | some v4=>
   simp only []
   rw [st,show decide ((4:Int) < 9)=true from rfl,cK_true,j4,show w64 (4+1)=5 from rfl]
   cases e5:num? x5.data.toList with
   | none=>
    rw [show rd [x0,x1,x2,x3,x4,x5,x6,x7,x8,x9]=none by simp [rd,e1,e2,e3,e4,e5]];rfl
   | some v5=>
   simp only []
   rw [st,show decide ((5:Int) < 9)=true from rfl,cK_true,j5,show w64 (5+1)=6 from rfl]
   cases e6:num? x6.data.toList with
   | none=>
    rw [show rd [x0,x1,x2,x3,x4,x5,x6,x7,x8,x9]=none by simp [rd,e1,e2,e3,e4,e5,e6]];rfl
   | some v6=>
   simp only []
   rw [st,show decide ((6:Int) < 9)=true from rfl,cK_true,j6,show w64 (6+1)=7 from rfl]
   cases e7:num? x7.data.toList with
   | none=>
    rw [show rd [x0,x1,x2,x3,x4,x5,x6,x7,x8,x9]=none by simp [rd,e1,e2,e3,e4,e5,e6,e7]];rfl
   | some v7=>
   simp only []
   rw [st,show decide ((7:Int) < 9)=true from rfl,cK_true,j7,show w64 (7+1)=8 from rfl]
   cases e8:num? x8.data.toList with
   | none=>
    rw [show rd [x0,x1,x2,x3,x4,x5,x6,x7,x8,x9]=none by simp [rd,e1,e2,e3,e4,e5,e6,e7,e8]];rfl
   | some v8=>
   simp only []
   rw [st,show decide ((8:Int) < 9)=true from rfl,cK_true,j8,show w64 (8+1)=9 from rfl]
   cases e9:num? x9.data.toList with
   | none=>
    rw [show rd [x0,x1,x2,x3,x4,x5,x6,x7,x8,x9]=none by simp [rd,e1,e2,e3,e4,e5,e6,e7,e8,e9]];rfl
   | some v9=>
   simp only []
   rw [st,show decide ((9:Int) < 9)=false from rfl,cK_false,r0,f18_eq,show rd [x0,x1,x2,x3,x4,x5,x6,x7,x8,x9]=some ⟨x0,v1,v2,v3,v4,v5,v6,v7,v8,v9⟩ by simp [rd,e1,e2,e3,e4,e5,e6,e7,e8,e9]]
   exact cK_ne
 ·rw [rd_len h10]
  show cK (((List.length (strRows ws):Nat):Int) != 10) _ _=_
  rw [strRows_len,show (((ws.length:Nat):Int) != 10)=true by simp;omega]
  rfl
def rdn:List ByteArray->Option Rdg
 | []=>none
 | x::r=>if 10 ∈ x.data.toList then none else rd (x::r)
theorem f81_eq {ws:List ByteArray}(hw:∀ x ∈ ws,x.size < 100000)(hne:ws ≠ []){k:Tk (Bool->Option α)}{q:Option α}(hk:∀ y a b c d e f g h i,k y a b c d e f g h i false=q) :
  f81_0 α (strRows ws) k=match rdn ws with | some r=>r.ap k true | none=>q:=by
 by_cases h10:ws.length=10
 ·match ws,h10 with
  | [x0,x1,x2,x3,x4,x5,x6,x7,x8,x9],_=>
   have h0:=hw x0 (by simp)
   have h1:=hw x1 (by simp)
   have h2:=hw x2 (by simp)
   have h3:=hw x3 (by simp)
   have h4:=hw x4 (by simp)
   have h5:=hw x5 (by simp)
   have h6:=hw x6 (by simp)
   have h7:=hw x7 (by simp)
   have h8:=hw x8 (by simp)
   have h9:=hw x9 (by simp)
   generalize hR:strRows [x0,x1,x2,x3,x4,x5,x6,x7,x8,x9]=R
   have r0:∀ (f:ByteArray->Option α),rowK R 0 [.str] f=f x0:=fun f=>by subst hR;rfl
   have r1:∀ (f:ByteArray->Option α),rowK R 1 [.str] f=f x1:=fun f=>by subst hR;rfl
   have r2:∀ (f:ByteArray->Option α),rowK R 2 [.str] f=f x2:=fun f=>by subst hR;rfl
   have r3:∀ (f:ByteArray->Option α),rowK R 3 [.str] f=f x3:=fun f=>by subst hR;rfl
   have r4:∀ (f:ByteArray->Option α),rowK R 4 [.str] f=f x4:=fun f=>by subst hR;rfl
   have r5:∀ (f:ByteArray->Option α),rowK R 5 [.str] f=f x5:=fun f=>by subst hR;rfl
   have r6:∀ (f:ByteArray->Option α),rowK R 6 [.str] f=f x6:=fun f=>by subst hR;rfl
   have r7:∀ (f:ByteArray->Option α),rowK R 7 [.str] f=f x7:=fun f=>by subst hR;rfl
   have r8:∀ (f:ByteArray->Option α),rowK R 8 [.str] f=f x8:=fun f=>by subst hR;rfl
   have r9:∀ (f:ByteArray->Option α),rowK R 9 [.str] f=f x9:=fun f=>by subst hR;rfl
   have hlen:(((List.length R:Nat):Int) != 10)=false:=by subst hR;rfl
   simp only [f81_0,f81_0g]
   rw [r0,hlen,cK_false,f173_eq]
   rw [show rdn [x0,x1,x2,x3,x4,x5,x6,x7,x8,x9]=if 10 ∈ x0.data.toList then none else rd [x0,x1,x2,x3,x4,x5,x6,x7,x8,x9] from rfl]
   by_cases hn:10 ∈ x0.data.toList
   ·rw [decide_eq_true hn,cK_true,if_pos hn,hk]
   rw [decide_eq_false hn,cK_false,if_neg hn,r1]
   simp only [J81_0_0,J81_0_0g]
   rw [word' h1]
   cases e1:num? x1.data.toList with
   | none=>
    rw [show rd [x0,x1,x2,x3,x4,x5,x6,x7,x8,x9]=none by simp [rd,e1]];exact hk _ _ _ _ _ _ _ _ _ _
   | some v1=>
   simp only []
   rw [r2]
   simp only [J81_0_1,J81_0_1g]
   rw [word' h2]
   cases e2:num? x2.data.toList with
   | none=>
    rw [show rd [x0,x1,x2,x3,x4,x5,x6,x7,x8,x9]=none by simp [rd,e1,e2]];exact hk _ _ _ _ _ _ _ _ _ _
   | some v2=>
   simp only []
   rw [r3]
   simp only [J81_0_2,J81_0_2g]
   rw [word' h3]
   cases e3:num? x3.data.toList with
   | none=>
    rw [show rd [x0,x1,x2,x3,x4,x5,x6,x7,x8,x9]=none by simp [rd,e1,e2,e3]];exact hk _ _ _ _ _ _ _ _ _ _
   | some v3=>
   simp only []
   rw [r4]
   simp only [J81_0_3,J81_0_3g]
   rw [word' h4]
   cases e4:num? x4.data.toList with
   | none=>
    rw [show rd [x0,x1,x2,x3,x4,x5,x6,x7,x8,x9]=none by simp [rd,e1,e2,e3,e4]];exact hk _ _ _ _ _ _ _ _ _ _
   | some v4=>
   simp only []
   rw [r5]
   simp only [J81_0_4,J81_0_4g]
   rw [word' h5]
   cases e5:num? x5.data.toList with
   | none=>
    rw [show rd [x0,x1,x2,x3,x4,x5,x6,x7,x8,x9]=none by simp [rd,e1,e2,e3,e4,e5]];exact hk _ _ _ _ _ _ _ _ _ _
   | some v5=>
   simp only []
   rw [r6]
   simp only [J81_0_5,J81_0_5g]
   rw [word' h6]
   cases e6:num? x6.data.toList with
   | none=>
    rw [show rd [x0,x1,x2,x3,x4,x5,x6,x7,x8,x9]=none by simp [rd,e1,e2,e3,e4,e5,e6]];exact hk _ _ _ _ _ _ _ _ _ _
   | some v6=>
   simp only []
   rw [r7]
   simp only [J81_0_6,J81_0_6g]
   rw [word' h7]
   cases e7:num? x7.data.toList with
   | none=>
    rw [show rd [x0,x1,x2,x3,x4,x5,x6,x7,x8,x9]=none by simp [rd,e1,e2,e3,e4,e5,e6,e7]];exact hk _ _ _ _ _ _ _ _ _ _
   | some v7=>
   simp only []
   rw [r8]
   simp only [J81_0_7,J81_0_7g]
   rw [word' h8]
   cases e8:num? x8.data.toList with
   | none=>
    rw [show rd [x0,x1,x2,x3,x4,x5,x6,x7,x8,x9]=none by simp [rd,e1,e2,e3,e4,e5,e6,e7,e8]];exact hk _ _ _ _ _ _ _ _ _ _
   | some v8=>
   simp only []
   rw [r9]
   simp only [J81_0_8,J81_0_8g]
   rw [word' h9]
   cases e9:num? x9.data.toList with
   | none=>
    rw [show rd [x0,x1,x2,x3,x4,x5,x6,x7,x8,x9]=none by simp [rd,e1,e2,e3,e4,e5,e6,e7,e8,e9]];exact hk _ _ _ _ _ _ _ _ _ _
   | some v9=>
   simp only []
   rw [show rd [x0,x1,x2,x3,x4,x5,x6,x7,x8,x9]=some ⟨x0,v1,v2,v3,v4,v5,v6,v7,v8,v9⟩ by simp [rd,e1,e2,e3,e4,e5,e6,e7,e8,e9]]
 ·match ws,hne with
  | x::r,_=>
   have e:rdn (x::r)=none:=by
    rw [show rdn (x::r)=if 10 ∈ x.data.toList then none else rd (x::r) from rfl,rd_len h10,ite_self]
   rw [e]
   show cK (((List.length (strRows (x::r)):Nat):Int) != 10) (k x 0 0 0 0 0 0 0 0 0 false) _=_
   rw [strRows_len,show ((((x::r).length:Nat):Int) != 10)=true by rw [bne_iff_ne];omega,cK_true,hk]
def rd11:List ByteArray->Option (Rdg × Int)
 | [x0,x1,x2,x3,x4,x5,x6,x7,x8,x9,x10]=>(rd [x0,x1,x2,x3,x4,x5,x6,x7,x8,x9]).bind fun r=>(num? x10.data.toList).map fun n=>(r,n)
 | _=>none
theorem rd11_len {ws:List ByteArray}(h:ws.length ≠ 11):rd11 ws=none:=by
 unfold rd11
 split
 ·exact absurd rfl h
 ·rfl
theorem f81_1_eq {ws:List ByteArray}(hw:∀ x ∈ ws,x.size < 100000)(hne:ws ≠ [])(hnl:∀ x ∈ ws,¬ 10 ∈ x.data.toList){k:Tk (Bool->Int->Option α)}{q:Option α}(hk:∀ y a b c d e f g h i z,k y a b c d e f g h i false z=q) :
  f81_1 α (strRows ws) k=match rd11 ws with | some r=>r.1.ap k true r.2 | none=>q:=by
 by_cases h11:ws.length=11
 ·match ws,h11 with
  | [x0,x1,x2,x3,x4,x5,x6,x7,x8,x9,x10],_=>
   have h0:=hw x0 (by simp)
   have h1:=hw x1 (by simp)
   have h2:=hw x2 (by simp)
   have h3:=hw x3 (by simp)
   have h4:=hw x4 (by simp)
   have h5:=hw x5 (by simp)
   have h6:=hw x6 (by simp)
   have h7:=hw x7 (by simp)
   have h8:=hw x8 (by simp)
   have h9:=hw x9 (by simp)
   have h10:=hw x10 (by simp)
   generalize hR:strRows [x0,x1,x2,x3,x4,x5,x6,x7,x8,x9,x10]=R
   have r0:∀ (f:ByteArray->Option α),rowK R 0 [.str] f=f x0:=fun f=>by subst hR;rfl
   have r1:∀ (f:ByteArray->Option α),rowK R 1 [.str] f=f x1:=fun f=>by subst hR;rfl
   have r2:∀ (f:ByteArray->Option α),rowK R 2 [.str] f=f x2:=fun f=>by subst hR;rfl
   have r3:∀ (f:ByteArray->Option α),rowK R 3 [.str] f=f x3:=fun f=>by subst hR;rfl
   have r4:∀ (f:ByteArray->Option α),rowK R 4 [.str] f=f x4:=fun f=>by subst hR;rfl
   have r5:∀ (f:ByteArray->Option α),rowK R 5 [.str] f=f x5:=fun f=>by subst hR;rfl
   have r6:∀ (f:ByteArray->Option α),rowK R 6 [.str] f=f x6:=fun f=>by subst hR;rfl
   have r7:∀ (f:ByteArray->Option α),rowK R 7 [.str] f=f x7:=fun f=>by subst hR;rfl
   have r8:∀ (f:ByteArray->Option α),rowK R 8 [.str] f=f x8:=fun f=>by subst hR;rfl
   have r9:∀ (f:ByteArray->Option α),rowK R 9 [.str] f=f x9:=fun f=>by subst hR;rfl
   have r10:∀ (f:ByteArray->Option α),rowK R 10 [.str] f=f x10:=fun f=>by subst hR;rfl
   have hlen:(((List.length R:Nat):Int) != 11)=false:=by subst hR;rfl
   have hn:¬ 10 ∈ x0.data.toList:=hnl x0 (by simp)
   simp only [f81_1,f81_1g]
   rw [r0,hlen,cK_false,f173_eq,decide_eq_false hn,cK_false,r1]
   simp only [J81_1_0,J81_1_0g]
   rw [word' h1]
   cases e1:num? x1.data.toList with
   | none=>
    rw [show rd11 [x0,x1,x2,x3,x4,x5,x6,x7,x8,x9,x10]=none by simp [rd11,rd,e1]];exact hk _ _ _ _ _ _ _ _ _ _ _
   | some v1=>
   simp only []
   rw [r2]
   simp only [J81_1_1,J81_1_1g]
   rw [word' h2]
   cases e2:num? x2.data.toList with
   | none=>
    rw [show rd11 [x0,x1,x2,x3,x4,x5,x6,x7,x8,x9,x10]=none by simp [rd11,rd,e1,e2]];exact hk _ _ _ _ _ _ _ _ _ _ _
   | some v2=>
   simp only []
   rw [r3]
   simp only [J81_1_2,J81_1_2g]
   rw [word' h3]
   cases e3:num? x3.data.toList with
   | none=>
    rw [show rd11 [x0,x1,x2,x3,x4,x5,x6,x7,x8,x9,x10]=none by simp [rd11,rd,e1,e2,e3]];exact hk _ _ _ _ _ _ _ _ _ _ _
   | some v3=>
   simp only []
   rw [r4]
   simp only [J81_1_3,J81_1_3g]
   rw [word' h4]
   cases e4:num? x4.data.toList with
   | none=>
    rw [show rd11 [x0,x1,x2,x3,x4,x5,x6,x7,x8,x9,x10]=none by simp [rd11,rd,e1,e2,e3,e4]];exact hk _ _ _ _ _ _ _ _ _ _ _
   | some v4=>
   simp only []
   rw [r5]
   simp only [J81_1_4,J81_1_4g]
   rw [word' h5]
   cases e5:num? x5.data.toList with
   | none=>
    rw [show rd11 [x0,x1,x2,x3,x4,x5,x6,x7,x8,x9,x10]=none by simp [rd11,rd,e1,e2,e3,e4,e5]];exact hk _ _ _ _ _ _ _ _ _ _ _
   | some v5=>
   simp only []
   rw [r6]
   simp only [J81_1_5,J81_1_5g]
   rw [word' h6]
   cases e6:num? x6.data.toList with
   | none=>
    rw [show rd11 [x0,x1,x2,x3,x4,x5,x6,x7,x8,x9,x10]=none by simp [rd11,rd,e1,e2,e3,e4,e5,e6]];exact hk _ _ _ _ _ _ _ _ _ _ _
   | some v6=>
   simp only []
   rw [r7]
   simp only [J81_1_6,J81_1_6g]
   rw [word' h7]
   cases e7:num? x7.data.toList with
   | none=>
    rw [show rd11 [x0,x1,x2,x3,x4,x5,x6,x7,x8,x9,x10]=none by simp [rd11,rd,e1,e2,e3,e4,e5,e6,e7]];exact hk _ _ _ _ _ _ _ _ _ _ _
   | some v7=>
   simp only []
   rw [r8]
   simp only [J81_1_7,J81_1_7g]
   rw [word' h8]
   cases e8:num? x8.data.toList with
   | none=>
    rw [show rd11 [x0,x1,x2,x3,x4,x5,x6,x7,x8,x9,x10]=none by simp [rd11,rd,e1,e2,e3,e4,e5,e6,e7,e8]];exact hk _ _ _ _ _ _ _ _ _ _ _
   | some v8=>
   simp only []
   rw [r9]
   simp only [J81_1_8,J81_1_8g]
   rw [word' h9]
   cases e9:num? x9.data.toList with
   | none=>
    rw [show rd11 [x0,x1,x2,x3,x4,x5,x6,x7,x8,x9,x10]=none by simp [rd11,rd,e1,e2,e3,e4,e5,e6,e7,e8,e9]];exact hk _ _ _ _ _ _ _ _ _ _ _
   | some v9=>
   simp only []
   rw [r10]
   simp only [J81_1_9,J81_1_9g]
   rw [word' h10]
   cases e10:num? x10.data.toList with
   | none=>
    rw [show rd11 [x0,x1,x2,x3,x4,x5,x6,x7,x8,x9,x10]=none by simp [rd11,rd,e1,e2,e3,e4,e5,e6,e7,e8,e9,e10]];exact hk _ _ _ _ _ _ _ _ _ _ _
   | some v10=>
   simp only []
   rw [show rd11 [x0,x1,x2,x3,x4,x5,x6,x7,x8,x9,x10]=some (⟨x0,v1,v2,v3,v4,v5,v6,v7,v8,v9⟩,v10) by simp [rd11,rd,e1,e2,e3,e4,e5,e6,e7,e8,e9,e10]]
 ·match ws,hne with
  | x::r,_=>
   rw [rd11_len h11]
   show cK (((List.length (strRows (x::r)):Nat):Int) != 11) (k x 0 0 0 0 0 0 0 0 0 false 0) _=_
   rw [strRows_len,show ((((x::r).length:Nat):Int) != 11)=true by rw [bne_iff_ne];omega,cK_true,hk]
end Go.AM.K
