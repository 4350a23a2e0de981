/- Lines of a text, plainly. -/
import Derived.Lib.Bytealg
namespace Go.LT
def linesGo:List UInt8->List UInt8->List (List UInt8)
 | acc,[]=>if acc.isEmpty then [] else [acc]
 | acc,b::r=>if b == 10 then (acc++[b])::linesGo [] r else linesGo (acc++[b]) r
def linesL (l:List UInt8):List (List UInt8):=linesGo [] l
theorem idx_cases (l:List UInt8)(c:UInt8):Lib.indexByte l c=-1\/∃ k:Nat,Lib.indexByte l c=k:=by
 have:=Lib.indexByte_ge l c
 rcases Int.lt_or_le (Lib.indexByte l c) 0 with h | h
 ·left;omega
 ·right;exact⟨(Lib.indexByte l c).toNat,by omega⟩
theorem linesGo_none:∀ (l acc:List UInt8),Lib.indexByte l 10=-1->linesGo acc l=if (acc++l).isEmpty then [] else [acc++l]
 | [],acc,_=>by simp [linesGo]
 | b::r,acc,h=>by
  unfold Lib.indexByte at h
  by_cases hb:(b == 10)=true
  ·rw [if_pos hb] at h;cases h
  ·rw [if_neg hb] at h
   have h1:Lib.indexByte r 10=-1:=by
    rcases idx_cases r 10 with hq | ⟨k,hq⟩
    ·exact hq
    ·rw [hq] at h
     have:((k:Int) == -1)=false:=beq_eq_false_iff_ne.2 (by omega)
     rw [this] at h
     simp at h
     omega
   simp only [linesGo,hb,Bool.false_eq_true,if_false]
   rw [linesGo_none r (acc++[b]) h1]
   simp
theorem linesGo_at:∀ (l acc:List UInt8) (k:Nat),Lib.indexByte l 10=k->k < l.length/\linesGo acc l=(acc++l.take (k+1))::linesGo [] (l.drop (k+1))
 | [],acc,k,h=>by simp [Lib.indexByte] at h
 | b::r,acc,k,h=>by
  unfold Lib.indexByte at h
  by_cases hb:(b == 10)=true
  ·rw [if_pos hb] at h
   have:k=0:=by omega
   subst this
   refine⟨by simp,?_⟩
   simp only [linesGo,hb,if_true]
   simp
  ·rw [if_neg hb] at h
   rcases idx_cases r 10 with hq | ⟨m,hq⟩
   ·rw [hq] at h
    simp at h
   ·rw [hq] at h
    have h1:((m:Int) == -1)=false:=beq_eq_false_iff_ne.2 (by omega)
    rw [h1] at h
    simp at h
    have hk:k=m+1:=by omega
    subst hk
    obtain⟨h2,h3⟩:=linesGo_at r (acc++[b]) m hq
    refine⟨by simp;exact h2,?_⟩
    simp only [linesGo,hb,Bool.false_eq_true,if_false]
    rw [h3]
    simp
theorem linesL_nil:linesL []=[]:=rfl
theorem linesL_none {l:List UInt8}(h:Lib.indexByte l 10=-1)(hne:l ≠ []):linesL l=[l]:=by
 unfold linesL
 rw [linesGo_none l [] h]
 simp [hne]
theorem linesL_at {l:List UInt8}{k:Nat}(h:Lib.indexByte l 10=k):k < l.length/\linesL l=l.take (k+1)::linesL (l.drop (k+1)):=by
 obtain⟨h1,h2⟩:=linesGo_at l [] k h
 exact⟨h1,by unfold linesL;rw [h2];simp⟩
end Go.LT
