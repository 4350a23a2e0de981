/- Bands: what is known of a demand on a piece of its band. -/
import Derived.Test.YtmcplmhohldpjaaGreatYWk
namespace Go.AM.K
set_option linter.unusedVariables false
set_option linter.unusedSimpArgs false
variable {α:Type}
def fj (d:Dm)(ls:List L5)(oi ol:Int):Int:=
 if (l8 d ls oi ol).2=0 then
  if w64 (d.lo*1048576)<=w64 ((l8 d ls oi ol).1.1*10000)/\w64 ((l8 d ls oi ol).1.2*10000)<=w64 (d.hi*1048576) then 2 else
  if w64 ((l8 d ls oi ol).1.2*10000) < w64 (d.lo*1048576) then 0 else if w64 (d.hi*1048576) < w64 ((l8 d ls oi ol).1.1*10000) then 0 else 1
 else 1
theorem agP {a b c d:Int}{k:Bool->Option α}:nr α a b c d k=k (decide (c<=a/\b<=d)):=by
 rw [nr,af,Dc]
 exact Cl
theorem LP {d:Dm}(hs:0<=d.sh/\d.sh<=2){ls:List L5}{oi ol:Int}{k:Int->Option α} :
  ee α (ls.map rL) oi ol d.sh d.pol d.ix d.lo d.hi d.w1 d.w2 d.s1 d.s2 k=k (fj d ls oi ol):=by
 simp only [ee,af,Mg]
 rw [ags hs]
 unfold fj
 generalize l8 d ls oi ol=u
 simp only [agP]
 rw [eE,bi,bi,bi]
 by_cases c:u.2=0
 ·rw [if_pos c,if_pos c]
  by_cases c1:w64 (d.lo*1048576)<=w64 (u.1.1*10000)/\w64 (u.1.2*10000)<=w64 (d.hi*1048576)
  ·rw [if_pos c1,if_pos c1]
  ·rw [if_neg c1,if_neg c1]
   by_cases c2:w64 (u.1.2*10000) < w64 (d.lo*1048576)
   ·rw [if_pos c2,if_pos c2]
   ·rw [if_neg c2,if_neg c2]
    by_cases c3:w64 (d.hi*1048576) < w64 (u.1.1*10000)
    ·rw [if_pos c3,if_pos c3]
    ·rw [if_neg c3,if_neg c3]
 ·rw [if_neg c,if_neg c]
end Go.AM.K
