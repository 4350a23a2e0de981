/- Texts of one kind, put together. -/
import Derived.Test.YtmcplmhohldpjaaGreatKMa
import Derived.Test.YtmcplmhohldpjaaGreatRi
import Derived.Test.YtmcplmhohldpjaaGreatRj
namespace Go.AM.K
open Go.Proofs PT
def rQ:ae->Option (List (Int × Int))
 | []=>some []
 | [.v (.int .i64 a),.v (.int .i64 b)]::r=>match rQ r with
  | some l=>some ((a,b)::l)
  | none=>none
 | _=>none
theorem ry:∀ {rows:ae} {l:List (Int × Int)},rQ rows=some l->rows=l.map rP2
 | [],l,h=>by simp only [rQ,Option.some.injEq] at h;subst h;rfl
 | r::rows,l,h=>by
  unfold rQ at h
  split at h
  ·rename_i e;cases e
  ·rename_i a b r' e
   cases e
   split at h
   ·rename_i l' hl
    simp only [Option.some.injEq] at h
    subst h
    rw [ry hl];rfl
   ·cases h
  ·cases h
abbrev anh:Type:=ae->Option (List (List Value))
def anD:anh:=fun rows=>match rQ rows with
 | some l=>if l.length<=1000000 then some (zx l) else none
 | none=>none
def qL:List DC->Option (List (List Value))
 | [.cref [.sl rows] 0]=>anD rows
 | _=>none
theorem anl:∀ caps xs,qL caps=some xs->fB Tryz.prog 112 caps xs:=fun caps xs h=>by
 unfold qL at h
 split at h
 ·unfold anD at h
  split at h
  ·rename_i l hl
   split at h
   ·rename_i hlen
    simp only [Option.some.injEq] at h
    subst h
    rw [ry hl]
    exact fB.data (fun cs o e=>by cases e) (Tryz.back_run l hlen)
   ·cases h
  ·cases h
 ·cases h
end Go.AM.K

namespace Go.AM.K
open Go.Proofs PT
def xLS:XT:=⟨List Value,fun v=>match v with | [.tuple ⟨l⟩]=>some l | _=>none,fun y=>[.tuple ⟨y⟩],fun v x h=>by
 split at h
 ·simp only [Option.some.injEq] at h;subst h;rfl
 ·cases h⟩
abbrev OS (l:List Value):ae:=l.map fun c=>[DC.v c]
abbrev att:Type:=Int->Int->Option (List (List Value))
def Wm:PT (List DC):=PT.ofL [(dP [(dI .i64)] 0),(dP [(dI .i64)] 0)]
def q95:att:=fun n c=>if (0<=n/\n<=2)/\(c=1\/c=2) then some (Ck n.toNat c.toNat) else none
def aid:List DC->Option (List (List Value))
 | [.cref [.v (.int .i64 n)] 0,.cref [.v (.int .i64 c)] 0]=>q95 n c
 | _=>none
theorem afP:∀ caps xs,aid caps=some xs->fB Tryz.prog 95 caps xs:=fun caps xs h=>by
 unfold aid at h
 split at h
 ·rename_i n c
  unfold q95 at h
  split at h
  ·rename_i hh
   obtain⟨⟨h1,h2⟩,h3⟩:=hh
   simp only [Option.some.injEq] at h
   subst h
   have hr:=Tryz.lists_run n.toNat c.toNat (by omega) (by omega)
   rw [Int.toNat_of_nonneg h1,Int.toNat_of_nonneg (by omega)] at hr
   exact fB.fresh (fun cs o e=>by cases e) hr
  ·cases h
 ·cases h
theorem alG:ahJ Tryz.prog ⟨95,Wm,q95⟩:=fun caps xs h=>by
 have e:q95=Wm.unc fun caps=>aid caps:=rfl
 simp only at h
 rw [e] at h
 rcases Wm.law caps with hl | hr
 ·rw [hl] at h;exact⟨afP caps xs (by simpa using h),⟨Tryz.f95,Tryz.func95,by kernel_rfl,by kernel_rfl⟩⟩
 ·rw [hr] at h;cases h
end Go.AM.K
