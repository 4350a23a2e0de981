/- slices.Clip and the iterator of slices.Backward, as the printed texts name them. -/
import Derived.Test.YtaondhhdefbfkaaGreatKMa
import Derived.Test.YtaondhhdefbfkaaGreatRi
namespace Go.AM.K
open Go.Proofs PT
abbrev nt16:Nat:=9
abbrev Tf16_0:Type 1:=(α:Type)->Rows->(Rows->Option α)->Option α
def f16_0:Tf16_0:=fun _ x k=>k x
def pa16_0:PT (List DV):=pA [pV false [dL]]
def Fn16_0 (v:Tf16_0)(α:Type)(k:List RV->Option α):Rows->Option α:=fun x=>v α x (fun y=>k [(false,[.d (.csl y)])])
def r16:List DV->Option (List RV)
 | [(false,[.sl rows])]=>some [(false,[.d (.csl rows)])]
 | _=>none
theorem io16_0:InstOk Tryz.prog 16 nt16 ⟨pa16_0,Fn16_0 f16_0⟩:=
 inst_of (r:=r16) (fun α k=>rfl) (fun ds res h=>by
  unfold r16 at h
  split at h
  ·simp only [Option.some.injEq] at h
   subst h
   exact⟨Tryz.clip_contract _,Tryz.f16,Tryz.func16,by kernel_rfl,by kernel_rfl⟩
  ·cases h)
def pairsOf:Rows->Option (List (Int × Int))
 | []=>some []
 | [.v (.int .i64 a),.v (.int .i64 b)]::r=>match pairsOf r with
  | some l=>some ((a,b)::l)
  | none=>none
 | _=>none
theorem pairsOf_some:∀ {rows:Rows} {l:List (Int × Int)},pairsOf rows=some l->rows=l.map rP2
 | [],l,h=>by simp only [pairsOf,Option.some.injEq] at h;subst h;rfl
 | r::rows,l,h=>by
  unfold pairsOf at h
  split at h
  ·rename_i e;cases e
  ·rename_i a b r' e
   cases e
   split at h
   ·rename_i l' hl
    simp only [Option.some.injEq] at h
    subst h
    rw [pairsOf_some hl];rfl
   ·cases h
  ·cases h
theorem pairsOf_map:∀ (l:List (Int × Int)),pairsOf (l.map rP2)=some l
 | []=>rfl
 | p::l=>by
  show (match pairsOf (l.map rP2) with
   | some l=>some ((p.1,p.2)::l)
   | none=>none)=_
  rw [pairsOf_map l]
abbrev Tq44:Type:=Rows->Option (List (List Value))
def pq44:PT (List DC):=PT.ofL [(dP [dL] 0)]
def q44:Tq44:=fun rows=>match pairsOf rows with
 | some l=>if l.length<=1000000 then some (backX l) else none
 | none=>none
def qL:List DC->Option (List (List Value))
 | [.cref [.sl rows] 0]=>q44 rows
 | _=>none
theorem qL_ok:∀ caps xs,qL caps=some xs->IterOk Tryz.prog 44 caps xs:=fun caps xs h=>by
 unfold qL at h
 split at h
 ·unfold q44 at h
  split at h
  ·rename_i l hl
   split at h
   ·rename_i hlen
    simp only [Option.some.injEq] at h
    subst h
    rw [pairsOf_some hl]
    exact IterOk.data (fun cs o e=>by cases e) (Tryz.back_run l hlen)
   ·cases h
  ·cases h
 ·cases h
theorem sqok44:SeqOk Tryz.prog ⟨44,pq44,q44⟩:=fun caps xs h=>by
 have e:q44=pq44.unc fun caps=>qL caps:=rfl
 simp only at h
 rw [e] at h
 rcases pq44.law caps with hl | hr
 ·rw [hl] at h;exact⟨qL_ok caps xs (by simpa using h),⟨Tryz.f44,Tryz.func44,by kernel_rfl,by kernel_rfl⟩⟩
 ·rw [hr] at h;cases h
end Go.AM.K
