/- Stacks: shares lie between nothing and all. -/
import Derived.Test.YtmcplmhohldpjaaGreatYWi
namespace Go.AM.K
set_option linter.unusedVariables false
set_option linter.unusedSimpArgs false
def unitI (x:Int):Prop:=0<=x/\x<=1048576
def Unit6 (q:Q6):Prop:=unitI q.1/\unitI q.2.1/\unitI q.2.2.1/\unitI q.2.2.2.1/\unitI q.2.2.2.2.1/\unitI q.2.2.2.2.2
theorem u0:unitI 0:=⟨by decide,by decide⟩
theorem cut_u {x:Int}(h:0<=x):unitI (cut1 x):=by
 unfold unitI cut1;split <;> omega
theorem rst_u {x y:Int}(hx:unitI x)(hy:unitI y):unitI (rstE x y):=by
 unfold unitI at *
 unfold rstE pos
 rw [w64_in (n:=1048576 - x) (by omega) (by omega),w64_in (by omega) (by omega)]
 split <;> omega
theorem fin_u {A:Ask}{st:Bool}{a b c d:Int}(ha:unitI a)(hb:unitI b)(hc:unitI c)(hd:unitI d):Unit6 (finE A st a b c d).1:=by
 unfold finE
 cases st with
 | true=>
  rw [if_pos rfl]
  split
  ·exact⟨ha,hb,u0,u0,rst_u hb u0,rst_u ha u0⟩
  ·exact⟨ha,hb,u0,u0,u0,u0⟩
 | false=>
  rw [if_neg (by decide)]
  split
  ·exact⟨ha,hb,hc,hd,rst_u hb hd,rst_u ha hc⟩
  ·exact⟨ha,hb,hc,hd,u0,u0⟩
theorem eng_bd (a:Bl):(0<=(engE a).1/\(engE a).1<=8589934592)/\0<=(engE a).2.1/\(engE a).2.1<=34359738368:=by
 have g:=a.bd
 have d:=a.dn_bd
 have u:=a.up_bd
 show (0<=a.eLo/\a.eLo<=8589934592)/\0<=a.eHi/\a.eHi<=34359738368
 unfold Bl.eLo Bl.eHi cdv
 simp only []
 have hz:∀ z B:Int,0<=z->z<=B->0<=z*z/\z*z<=B*B:=fun z B h1 h2=>
  ⟨Int.mul_nonneg h1 h1,Int.mul_le_mul h2 h2 h1 (by omega)⟩
 have h1:=hz (if a.dn - a.b.2.2 > 0 then a.dn - a.b.2.2 else 0) 94906265 (by split <;> omega) (by split <;> omega)
 have h2:=hz (a.up+a.b.2.2) 162015130 (by omega) (by omega)
 generalize (if a.dn - a.b.2.2 > 0 then a.dn - a.b.2.2 else 0)=z1 at *
 generalize a.up+a.b.2.2=z2 at *
 generalize z1*z1=y1 at *
 generalize z2*z2=y2 at *
 omega
theorem prt_bd (e:Int)(a:Bl):(-134217728<=(prtE e a).1.1/\(prtE e a).1.1<=134217728)/\(-134217728<=(prtE e a).1.2.1/\(prtE e a).1.2.1<=134217728):=by
 have g:=a.bd
 unfold prtE
 by_cases c:e=0
 ·rw [if_pos c]
  show (-134217728<=a.lo1/\a.lo1<=134217728)/\(-134217728<=a.hi1/\a.hi1<=134217728)
  unfold Bl.lo1 Bl.hi1
  omega
 ·rw [if_neg c]
  show (-134217728<=(0:Int)/\(0:Int)<=134217728)/\(-134217728<=(0:Int)/\(0:Int)<=134217728)
  omega
theorem dn_nn {x y d:Int}(hx:0<=x)(hx2:x<=134217728)(hy:0<=y)(hy2:y<=34359738368)(hd:0 < d):0<=dnI (w64 (x*y)) d:=by
 have m:=mulB hx hx2 hy hy2
 unfold dnI
 rw [w64_in (n:=x*y) (by omega) (by omega),Int.tdiv_eq_ediv_of_nonneg m.1]
 have h1:=Int.ediv_nonneg m.1 (Int.le_of_lt hd)
 have h2:=Int.ediv_le_self d m.1
 rw [w64_in (by omega) (by omega)]
 exact h1
theorem up_nn {x y d:Int}(hx:0<=x)(hx2:x<=134217728)(hy:0<=y)(hy2:y<=34359738368)(hd:0 < d)(hd2:d<=134217728):0<=upI (w64 (x*y)) d:=by
 have m:=mulB hx hx2 hy hy2
 unfold upI
 rw [w64_in (n:=x*y) (by omega) (by omega),w64_in (n:=x*y+d) (by omega) (by omega),w64_in (n:=x*y+d - 1) (by omega) (by omega),Int.tdiv_eq_ediv_of_nonneg (by omega)]
 have h1:=Int.ediv_nonneg (a:=x*y+d - 1) (by omega) (Int.le_of_lt hd)
 have h2:=Int.ediv_le_self (a:=x*y+d - 1) d (by omega)
 rw [w64_in (by omega) (by omega)]
 exact h1
theorem pos_bd {x:Int}(h:x<=134217728):0<=pos x/\pos x<=134217728:=by unfold pos;split <;> omega
theorem z6_u:Unit6 z6:=⟨u0,u0,u0,u0,u0,u0⟩
theorem shares_u (A:Ask):Unit6 (sharesE A).1:=by
 unfold sharesE
 by_cases c:ckA A=0
 ·rw [if_pos c,bnd_eq,bnd_eq,bnd_eq,bndP_eq,bnd_eq,bndP_eq,bndN_eq]
  generalize ampE A false 0=r
  generalize ampE A true r.2=t
  generalize admE A (A.ls.length+1) t.2=l
  have pl:=prt_bd l.2 l.1
  generalize prtE l.2 l.1=ul at *
  generalize admE A 0 ul.2=f
  have pf:=prt_bd f.2 f.1
  have pq:=prt_pos (e:=f.2) (a:=f.1)
  have pr:(prtE f.2 f.1).1.1<=(prtE f.2 f.1).1.2.1:=by
   have g:=f.1.bd
   unfold prtE
   by_cases c:f.2=0
   ·rw [if_pos c]
    show f.1.lo1<=f.1.hi1
    unfold Bl.lo1 Bl.hi1
    omega
   ·rw [if_neg c]
    exact Int.le_refl 0
  generalize prtE f.2 f.1=fr at *
  generalize normalE A (A.ls.length+1) fr.2=n
  by_cases c7:n.2.2=0
  ·rw [if_pos c7]
   by_cases cf:fr.1.1<=0
   ·rw [if_pos cf];exact z6_u
   ·rw [if_neg cf,bndF_eq]
    by_cases c8:(engE r.1).2.2=0
    ·rw [if_pos c8,bndF_eq]
     by_cases c9:(engE t.1).2.2=0
     ·rw [if_pos c9]
      have er:=eng_bd r.1
      have et:=eng_bd t.1
      have p1:=pos_bd pl.1.2
      have p2:=pos_bd pl.2.2
      exact fin_u (cut_u er.1.1) (cut_u er.2.1) (cut_u (dn_nn p1.1 p1.2 et.1.1 (by omega) (by omega))) (cut_u (up_nn p2.1 p2.2 et.2.1 et.2.2 (by omega) pf.1.2))
     ·rw [if_neg c9];exact z6_u
    ·rw [if_neg c8];exact z6_u
  ·rw [if_neg c7];exact z6_u
 ·rw [if_neg c];exact z6_u
theorem sq_mono {x y:Int}(h:0<=x)(h2:x<=y):x*x<=y*y:=Int.mul_le_mul h2 h2 h (by omega)
theorem eng_o (a:Bl):(engE a).1<=(engE a).2.1:=by
 have g:=a.bd
 have d:=a.dn_bd
 have u:=a.up_bd
 have du:a.dn<=a.up:=by
  show (isq (sqn a.b):Int)<=upq (sqn a.b)
  unfold upq
  split <;> omega
 show a.eLo<=a.eHi
 unfold Bl.eLo Bl.eHi cdv
 simp only []
 have h:=sq_mono (x:=if a.dn - a.b.2.2 > 0 then a.dn - a.b.2.2 else 0) (y:=a.up+a.b.2.2) (by split <;> omega) (by split <;> omega)
 generalize (if a.dn - a.b.2.2 > 0 then a.dn - a.b.2.2 else 0)=z1 at *
 generalize a.up+a.b.2.2=z2 at *
 generalize z1*z1=y1 at *
 generalize z2*z2=y2 at *
 omega
theorem prt_o (e:Int)(a:Bl):(prtE e a).1.1<=(prtE e a).1.2.1:=by
 have g:=a.bd
 unfold prtE
 by_cases c:e=0
 ·rw [if_pos c]
  show a.lo1<=a.hi1
  unfold Bl.lo1 Bl.hi1
  omega
 ·rw [if_neg c]
  exact Int.le_refl 0
end Go.AM.K
