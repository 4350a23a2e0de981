/- Quarter waves: the reflected share holds the fraction. -/
import Derived.Test.YtaondhhdefbfkaaGreatYX6
namespace Go.AM.K
open Go.AM
set_option linter.unusedVariables false
set_option linter.unusedSimpArgs false
theorem thr_sticky {A:Ask}{fs:Bool}{rest:List L5}{n:Nat}{p:Mt}{a:Bl}{e:Int}(h:(thrE A fs rest n p a e).2=0):e=0:=by
 cases rest with
 | nil=>exact h
 | cons l ls=>
  rw [thrE_cons] at h
  by_cases c:e=0
  ·exact c
  ·rw [if_neg c] at h;exact h
theorem amp_sticky {A:Ask}{on e:Int}{tr:Bool}(hpol:A.pol=0)(hs:A.s1=0/\A.s2=0)(hix:5000<=A.ix/\A.ix<=80000)(hon:5000<=on/\on<=80000)(hoi:A.oi=on)(hol:A.ol=0)
  (h:(ampE A tr e).2=0):e=0:=by
 unfold ampE at h
 rw [bnd_eq,bndT_eq,bnd_eq,bnd_eq,bnd_eq,bnd_eq,bnd_eq,bnd_eq,bnd_eq] at h
 generalize hf:admE A 0 e=f at *
 generalize ht:throughE A tr f.2=t at *
 generalize hl:admE A (A.ls.length+1) t.2=l at *
 generalize h1:two timesE l.2 t.1.1.2.1 l.1=t1 at *
 generalize h2:two plusE t1.2 t.1.1.1 t1.1=b at *
 generalize h3:two timesE b.2 t.1.1.2.2.2 l.1=t2 at *
 generalize h4:two plusE t2.2 t.1.1.2.2.1 t2.1=c at *
 generalize h5:two timesE c.2 f.1 b.1=a at *
 generalize h6:two plusE a.2 a.1 c.1=d at *
 have xd:d.2=0:=by
  by_cases c:tr=true
  ·rw [if_pos c,bnd_eq,bnd_eq,bnd_eq] at h
   simp only at h
   obtain⟨x1,_⟩:=two_ok h
   obtain⟨x2,_⟩:=two_ok x1
   obtain⟨x3,_⟩:=two_ok x2
   exact x3
  ·rw [if_neg c,bnd_eq,bnd_eq] at h
   simp only at h
   obtain⟨x1,_⟩:=two_ok h
   obtain⟨x2,_⟩:=two_ok x1
   exact x2
 obtain⟨x5,_⟩:=two_v h6 xd
 obtain⟨x4,_⟩:=two_v h5 x5
 obtain⟨x3,_⟩:=two_v h4 x4
 obtain⟨x2,_⟩:=two_v h3 x3
 obtain⟨x1,_⟩:=two_v h2 x2
 obtain⟨x0,_⟩:=two_v h1 x1
 have hlast:medE A (A.ls.length+1)=(on,on,0):=by
  rw [medE_none (List.getElem?_eq_none_iff.2 (Nat.le_refl _)),hoi,hol]
 have xt:t.2=0:=by
  subst hl
  exact (adm_ok hpol hs hlast hon.1 hon.2 x0).1
 have xf:f.2=0:=by
  subst ht
  exact thr_sticky xt
 subst hf
 exact (adm_ok hpol hs (n:=0) rfl hix.1 hix.2 xf).1
theorem fin_12 {A:Ask}{st:Bool}{a b c d:Int}:(finE A st a b c d).1.1=a/\(finE A st a b c d).1.2.1=b:=by
 unfold finE
 cases st with
 | true=>rw [if_pos rfl];split <;> exact⟨rfl,rfl⟩
 | false=>rw [if_neg (by decide)];split <;> exact⟨rfl,rfl⟩
theorem shares_refl {A:Ask}{on:Int}(hpol:A.pol=0)(hs:A.s1=0/\A.s2=0)(hix:5000<=A.ix/\A.ix<=80000)(hon:5000<=on/\on<=80000)(hoi:A.oi=on)(hol:A.ol=0)
  {w:Int} (hq:∀ (i:Nat) (l:L5),A.ls[i]?=some l->∃ d,Qtr A l (1+i) l.1 d w) (h:(sharesE A).2=0)
  {P D:Int} (hP:P=A.ix*(yv (A.ls.map fun l=>l.1) on).2 - 10000*(yv (A.ls.map fun l=>l.1) on).1) (hD:D=A.ix*(yv (A.ls.map fun l=>l.1) on).2+10000*(yv (A.ls.map fun l=>l.1) on).1) :
  0 < D/\D*D*(sharesE A).1.1<=P*P*1048576/\P*P*1048576<=D*D*(sharesE A).1.2.1/\P*P<=D*D:=by
 have hlast:medE A (A.ls.length+1)=(on,on,0):=by
  rw [medE_none (List.getElem?_eq_none_iff.2 (Nat.le_refl _)),hoi,hol]
 have hpp:0 < (yv (A.ls.map fun l=>l.1) on).1/\0 < (yv (A.ls.map fun l=>l.1) on).2:=by
  refine yv_pos (by omega) _ fun N hN=>?_
  obtain⟨l,hl,rfl⟩:=List.mem_map.1 hN
  obtain⟨i,hi⟩:=List.getElem?_of_mem hl
  obtain⟨d,hd⟩:=hq i l hi
  have:=hd.n1
  omega
 have hPD:P*P<=D*D:=by
  have a1:=Int.mul_pos (show 0 < A.ix by omega) hpp.2
  have a2:=Int.mul_pos (show (0:Int) < 10000 by decide) hpp.1
  have:=mul_bd (a:=P) (b:=P) (A:=D) (B:=D) (by omega) (by omega) (by omega) (by omega)
  exact this.2
 unfold sharesE at h ⊢
 by_cases c:ckA A=0
 ·rw [if_pos c,bnd_eq,bnd_eq,bnd_eq,bndP_eq,bnd_eq,bndP_eq,bndN_eq] at h ⊢
  generalize hr:ampE A false 0=r at *
  generalize ht:ampE A true r.2=t at *
  generalize hl:admE A (A.ls.length+1) t.2=l at *
  generalize hu:prtE l.2 l.1=u at *
  generalize hf:admE A 0 u.2=f at *
  generalize hfr:prtE f.2 f.1=fr at *
  generalize hn:normalE A (A.ls.length+1) fr.2=n at *
  by_cases c7:n.2.2=0
  ·rw [if_pos c7] at h ⊢
   by_cases cf:fr.1.1<=0
   ·rw [if_pos cf] at h;exact absurd h (by decide)
   ·rw [if_neg cf,bndF_eq] at h ⊢
    rw [if_pos (show (engE r.1).2.2=0 from rfl),bndF_eq,if_pos (show (engE t.1).2.2=0 from rfl)] at h ⊢
    have x1:fr.2=0:=by subst hn;exact (normal_ok hs hlast hon.1 hon.2 c7).1
    have x2:f.2=0:=by subst hfr;exact (prtE_ok x1).1
    have x3:u.2=0:=by subst hf;exact (adm_ok hpol hs (n:=0) rfl hix.1 hix.2 x2).1
    have x4:l.2=0:=by subst hu;exact (prtE_ok x3).1
    have x5:t.2=0:=by subst hl;exact (adm_ok hpol hs hlast hon.1 hon.2 x4).1
    have x6:r.2=0:=by subst ht;exact amp_sticky hpol hs hix hon hoi hol x5
    have hcon:Con r.1 P D:=by
     subst hr
     rw [hP,hD]
     exact (amp_ok hpol hs hix hon hoi hol hq x6).2
    obtain⟨e1,e2⟩:=con_eng hcon
    rw [fin_12.1,fin_12.2]
    refine⟨hcon.1,?_,?_,hPD⟩
    ·refine Int.le_trans (Int.mul_le_mul_of_nonneg_left ?_ (sq_nn D)) e1
     show cut1 r.1.eLo<=r.1.eLo
     unfold cut1;split <;> omega
    ·show P*P*1048576<=D*D*cut1 r.1.eHi
     unfold cut1
     split
     ·omega
     ·exact e2
  ·rw [if_neg c7] at h;exact absurd h c7
 ·rw [if_neg c] at h;exact absurd h c
end Go.AM.K
