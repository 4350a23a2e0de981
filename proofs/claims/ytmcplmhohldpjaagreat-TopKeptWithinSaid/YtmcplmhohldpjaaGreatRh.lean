/- slices.Clip and the iterator of slices.Backward, as the printed texts name them. -/
import Derived.Test.YtmcplmhohldpjaaGreatKMa
import Derived.Test.YtmcplmhohldpjaaGreatRi
namespace Go.AM.K
open Go.Proofs PT
def pairsOf:Rows->Option (List (Int × Int))
 | []=>some []
 | [.v (.int .i64 a),.v (.int .i64 b)]::r=>match pairsOf r with
  | some l=>some ((a,b)::l)
  | none=>none
 | _=>none
theorem pairsOf_some:∀ {rows:Rows} {l:List (Int × Int)},pairsOf rows=some l->rows=l.map rP2
 | [],l,h=>by simp only [pairsOf,Option.some.injEq] at h;subst h;rfl
 | r::rows,l,h=>by
  unfold pairsOf at h
  split at h
  ·rename_i e;cases e
  ·rename_i a b r' e
   cases e
   split at h
   ·rename_i l' hl
    simp only [Option.some.injEq] at h
    subst h
    rw [pairsOf_some hl];rfl
   ·cases h
  ·cases h
abbrev Tq112:Type:=Rows->Option (List (List Value))
def q112:Tq112:=fun rows=>match pairsOf rows with
 | some l=>if l.length<=1000000 then some (backX l) else none
 | none=>none
def qL:List DC->Option (List (List Value))
 | [.cref [.sl rows] 0]=>q112 rows
 | _=>none
theorem qL_ok:∀ caps xs,qL caps=some xs->IterOk Tryz.prog 112 caps xs:=fun caps xs h=>by
 unfold qL at h
 split at h
 ·unfold q112 at h
  split at h
  ·rename_i l hl
   split at h
   ·rename_i hlen
    simp only [Option.some.injEq] at h
    subst h
    rw [pairsOf_some hl]
    exact IterOk.data (fun cs o e=>by cases e) (Tryz.back_run l hlen)
   ·cases h
  ·cases h
 ·cases h
end Go.AM.K
