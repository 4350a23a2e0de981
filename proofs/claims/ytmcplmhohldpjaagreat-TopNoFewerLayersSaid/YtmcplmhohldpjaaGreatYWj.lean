/- Stacks: shares lie between nothing and all. -/
import Derived.Test.YtmcplmhohldpjaaGreatYWi
namespace Go.AM.K
set_option linter.unusedVariables false
set_option linter.unusedSimpArgs false
def cW (x:Int):Prop:=0<=x/\x<=1048576
def MU (q:Q6):Prop:=cW q.1/\cW q.2.1/\cW q.2.2.1/\cW q.2.2.2.1/\cW q.2.2.2.2.1/\cW q.2.2.2.2.2
theorem u0:cW 0:=⟨by decide,by decide⟩
theorem wh {x:Int}(h:0<=x):cW (wC x):=by
 unfold cW wC;split <;> omega
theorem QC {x y:Int}(hx:cW x)(hy:cW y):cW (yS x y):=by
 unfold cW at *
 unfold yS pos
 rw [ak (n:=1048576 - x) (by omega) (by omega),ak (by omega) (by omega)]
 split <;> omega
theorem apv {A:Ask}{st:Bool}{a b c d:Int}(ha:cW a)(hb:cW b)(hc:cW c)(hd:cW d):MU (JI A st a b c d).1:=by
 unfold JI
 cases st with
 | true=>
  rw [if_pos rfl]
  split
  ·exact⟨ha,hb,u0,u0,QC hb u0,QC ha u0⟩
  ·exact⟨ha,hb,u0,u0,u0,u0⟩
 | false=>
  rw [if_neg (by decide)]
  split
  ·exact⟨ha,hb,hc,hd,QC hb hd,QC ha hc⟩
  ·exact⟨ha,hb,hc,hd,u0,u0⟩
theorem Fk (a:Bl):(0<=(uY a).1/\(uY a).1<=8589934592)/\0<=(uY a).2.1/\(uY a).2.1<=34359738368:=by
 have g:=a.bd
 have d:=a.dn_bd
 have u:=a.up_bd
 show (0<=a.eLo/\a.eLo<=8589934592)/\0<=a.eHi/\a.eHi<=34359738368
 unfold Bl.eLo Bl.eHi cdv
 simp only []
 have hz:∀ z B:Int,0<=z->z<=B->0<=z*z/\z*z<=B*B:=fun z B h1 h2=>
  ⟨Int.mul_nonneg h1 h1,Int.mul_le_mul h2 h2 h1 (by omega)⟩
 have h1:=hz (if a.dn - a.b.2.2 > 0 then a.dn - a.b.2.2 else 0) 94906265 (by split <;> omega) (by split <;> omega)
 have h2:=hz (a.up+a.b.2.2) 162015130 (by omega) (by omega)
 generalize (if a.dn - a.b.2.2 > 0 then a.dn - a.b.2.2 else 0)=z1 at *
 generalize a.up+a.b.2.2=z2 at *
 generalize z1*z1=y1 at *
 generalize z2*z2=y2 at *
 omega
theorem Fa (e:Int)(a:Bl):(-134217728<=(fJ e a).1.1/\(fJ e a).1.1<=134217728)/\(-134217728<=(fJ e a).1.2.1/\(fJ e a).1.2.1<=134217728):=by
 have g:=a.bd
 unfold fJ
 by_cases c:e=0
 ·rw [if_pos c]
  show (-134217728<=a.lo1/\a.lo1<=134217728)/\(-134217728<=a.hi1/\a.hi1<=134217728)
  unfold Bl.lo1 Bl.hi1
  omega
 ·rw [if_neg c]
  show (-134217728<=(0:Int)/\(0:Int)<=134217728)/\(-134217728<=(0:Int)/\(0:Int)<=134217728)
  omega
theorem ahQ {x y d:Int}(hx:0<=x)(hx2:x<=134217728)(hy:0<=y)(hy2:y<=34359738368)(hd:0 < d):0<=dnI (w64 (x*y)) d:=by
 have m:=jq hx hx2 hy hy2
 unfold dnI
 rw [ak (n:=x*y) (by omega) (by omega),Int.tdiv_eq_ediv_of_nonneg m.1]
 have h1:=Int.ediv_nonneg m.1 (Int.le_of_lt hd)
 have h2:=Int.ediv_le_self d m.1
 rw [ak (by omega) (by omega)]
 exact h1
theorem ahX {x y d:Int}(hx:0<=x)(hx2:x<=134217728)(hy:0<=y)(hy2:y<=34359738368)(hd:0 < d)(hd2:d<=134217728):0<=upI (w64 (x*y)) d:=by
 have m:=jq hx hx2 hy hy2
 unfold upI
 rw [ak (n:=x*y) (by omega) (by omega),ak (n:=x*y+d) (by omega) (by omega),ak (n:=x*y+d - 1) (by omega) (by omega),Int.tdiv_eq_ediv_of_nonneg (by omega)]
 have h1:=Int.ediv_nonneg (a:=x*y+d - 1) (by omega) (Int.le_of_lt hd)
 have h2:=Int.ediv_le_self (a:=x*y+d - 1) d (by omega)
 rw [ak (by omega) (by omega)]
 exact h1
theorem mE {x:Int}(h:x<=134217728):0<=pos x/\pos x<=134217728:=by unfold pos;split <;> omega
theorem WN:MU z6:=⟨u0,u0,u0,u0,u0,u0⟩
theorem YI (A:Ask):MU (eV A).1:=by
 unfold eV
 by_cases c:ckA A=0
 ·rw [if_pos c,aL,aL,aL,eB,aL,eB,iF]
  generalize wH A false 0=r
  generalize wH A true r.2=t
  generalize kx A (A.ls.length+1) t.2=l
  have pl:=Fa l.2 l.1
  generalize fJ l.2 l.1=ul at *
  generalize kx A 0 ul.2=f
  have pf:=Fa f.2 f.1
  have pq:=K8 (e:=f.2) (a:=f.1)
  have pr:(fJ f.2 f.1).1.1<=(fJ f.2 f.1).1.2.1:=by
   have g:=f.1.bd
   unfold fJ
   by_cases c:f.2=0
   ·rw [if_pos c]
    show f.1.lo1<=f.1.hi1
    unfold Bl.lo1 Bl.hi1
    omega
   ·rw [if_neg c]
    exact Int.le_refl 0
  generalize fJ f.2 f.1=fr at *
  generalize dq A (A.ls.length+1) fr.2=n
  by_cases c7:n.2.2=0
  ·rw [if_pos c7]
   by_cases cf:fr.1.1<=0
   ·rw [if_pos cf];exact WN
   ·rw [if_neg cf,fN]
    by_cases c8:(uY r.1).2.2=0
    ·rw [if_pos c8,fN]
     by_cases c9:(uY t.1).2.2=0
     ·rw [if_pos c9]
      have er:=Fk r.1
      have et:=Fk t.1
      have p1:=mE pl.1.2
      have p2:=mE pl.2.2
      exact apv (wh er.1.1) (wh er.2.1) (wh (ahQ p1.1 p1.2 et.1.1 (by omega) (by omega))) (wh (ahX p2.1 p2.2 et.2.1 et.2.2 (by omega) pf.1.2))
     ·rw [if_neg c9];exact WN
    ·rw [if_neg c8];exact WN
  ·rw [if_neg c7];exact WN
 ·rw [if_neg c];exact WN
theorem xW {x y:Int}(h:0<=x)(h2:x<=y):x*x<=y*y:=Int.mul_le_mul h2 h2 h (by omega)
theorem amG (a:Bl):(uY a).1<=(uY a).2.1:=by
 have g:=a.bd
 have d:=a.dn_bd
 have u:=a.up_bd
 have du:a.dn<=a.up:=by
  show (isq (sqn a.b):Int)<=upq (sqn a.b)
  unfold upq
  split <;> omega
 show a.eLo<=a.eHi
 unfold Bl.eLo Bl.eHi cdv
 simp only []
 have h:=xW (x:=if a.dn - a.b.2.2 > 0 then a.dn - a.b.2.2 else 0) (y:=a.up+a.b.2.2) (by split <;> omega) (by split <;> omega)
 generalize (if a.dn - a.b.2.2 > 0 then a.dn - a.b.2.2 else 0)=z1 at *
 generalize a.up+a.b.2.2=z2 at *
 generalize z1*z1=y1 at *
 generalize z2*z2=y2 at *
 omega
theorem amp (e:Int)(a:Bl):(fJ e a).1.1<=(fJ e a).1.2.1:=by
 have g:=a.bd
 unfold fJ
 by_cases c:e=0
 ·rw [if_pos c]
  show a.lo1<=a.hi1
  unfold Bl.lo1 Bl.hi1
  omega
 ·rw [if_neg c]
  exact Int.le_refl 0
end Go.AM.K
