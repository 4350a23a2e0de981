/- Quarter waves: the reflected amplitude contains the fraction that the rule tells. -/
import Derived.Test.YtaondhhdefbfkaaGreatYX5
namespace Go.AM.K
open Go.AM
set_option linter.unusedVariables false
set_option linter.unusedSimpArgs false
structure SQ where
 odd:Bool
 P:Int
 D:Int
def StOk (s:SQ)(p:Mt):Prop:=0 < s.P/\0 < s.D /\
 (s.odd=false->Con p.1 s.P s.D/\Con p.2.1 0 1/\Con p.2.2.1 0 1/\Con p.2.2.2 s.D s.P) /\
 (s.odd=true->Con p.1 0 1/\Con p.2.1 s.P s.D/\Con p.2.2.1 s.D s.P/\Con p.2.2.2 0 1)
def stepQ (s:SQ)(N:Int):SQ:=if s.odd=true then ⟨false,s.P*N,s.D*10000⟩ else ⟨true,s.P*10000,s.D*N⟩
theorem step_ok {s:SQ}{p m:Mt}{N e:Int}(hN:0 < N)(hs:StOk s p)(hm:Con m.1 0 1/\Con m.2.1 10000 N/\Con m.2.2.1 N 10000/\Con m.2.2.2 0 1)(h:(mulE e p m).2=0) :
  e=0/\StOk (stepQ s N) (mulE e p m).1:=by
 obtain⟨hP,hD,h0,h1⟩:=hs
 have pN:=Int.mul_pos hP hN
 have dN:=Int.mul_pos hD hN
 have pT:=Int.mul_pos hP (show (0:Int) < 10000 by decide)
 have dT:=Int.mul_pos hD (show (0:Int) < 10000 by decide)
 unfold stepQ
 cases ho:s.odd with
 | false=>
  obtain⟨e0,ka,kb,kc,kd⟩:=mul_ok (h0 ho) hm h
  rw [if_neg (by decide)]
  refine⟨e0,pT,dN,fun h=>(by cases h),fun _=>⟨con_eq ka (by decide) (by grind),con_eq kb dN (by grind),con_eq kc pT (by grind),con_eq kd (by decide) (by grind)⟩⟩
 | true=>
  obtain⟨e0,ka,kb,kc,kd⟩:=mul_ok (h1 ho) hm h
  rw [if_pos rfl]
  refine⟨e0,pN,dT,fun _=>⟨con_eq ka dT (by grind),con_eq kb (by decide) (by grind),con_eq kc (by decide) (by grind),con_eq kd pN (by grind)⟩,fun h=>(by cases h)⟩
def foldQ:List Int->SQ->SQ
 | [],s=>s
 | N::r,s=>foldQ r (stepQ s N)
theorem thr_ok {A:Ask}{w:Int}(hpol:A.pol=0):∀ (rest:List L5) (n:Nat) (p:Mt) (a:Bl) (e:Int) (s:SQ),(∀ (i:Nat) (l:L5),rest[i]?=some l->∃ d,Qtr A l (n+i) l.1 d w)->StOk s p ->
  (thrE A false rest n p a e).2=0->e=0/\StOk (foldQ (rest.map fun l=>l.1) s) (thrE A false rest n p a e).1.1:=by
 intro rest
 induction rest with
 | nil=>intro n p a e s _ hs h;exact⟨h,hs⟩
 | cons l rs ih=>
  intro n p a e s hq hs h
  rw [thrE_cons] at h ⊢
  by_cases c:e=0
  ·rw [if_pos c,bnd_eq,bnd_eq,if_neg (by decide),bndM_eq,bndM_eq] at h ⊢
   obtain⟨d,hd⟩:=hq 0 l rfl
   rw [Nat.add_zero] at hd
   generalize hm:matE (factorE A l n 2 (admE A n e).2).2 (admE A n e).1 (factorE A l n 2 (admE A n e).2).1=M at *
   generalize hx:mulE M.2 p M.1=X at *
   -- the error is nothing from the end on
   have key:X.2=0->X.2=0/\M.2=0/\StOk (stepQ s l.1) X.1:=by
    intro hX
    subst hx
    have hM:M.2=0:=by
     unfold mulE at hX
     rw [bnd_eq,bnd_eq,bnd_eq,bnd_eq,bnd_eq,bnd_eq,bnd_eq,bnd_eq,bnd_eq,bnd_eq,bnd_eq,bnd_eq] at hX
     simp only at hX
     obtain⟨x1,_⟩:=two_ok hX
     obtain⟨x2,_⟩:=two_ok x1
     obtain⟨x3,_⟩:=two_ok x2
     obtain⟨x4,_⟩:=two_ok x3
     obtain⟨x5,_⟩:=two_ok x4
     obtain⟨x6,_⟩:=two_ok x5
     obtain⟨x7,_⟩:=two_ok x6
     obtain⟨x8,_⟩:=two_ok x7
     obtain⟨x9,_⟩:=two_ok x8
     obtain⟨x10,_⟩:=two_ok x9
     obtain⟨x11,_⟩:=two_ok x10
     obtain⟨x12,_⟩:=two_ok x11
     exact x12
    have hF:(factorE A l n 2 (admE A n e).2).2=0:=by
     subst hm
     unfold matE at hM
     rw [bnd_eq,bnd_eq,bnd_eq,bnd_eq,bnd_eq,bnd_eq,bnd_eq] at hM
     simp only at hM
     obtain⟨x1,_⟩:=two_ok hM
     obtain⟨x2,_⟩:=two_ok x1
     obtain⟨x3,_⟩:=two_ok x2
     obtain⟨x4,_⟩:=two_ok x3
     obtain⟨x5,_⟩:=two_ok x4
     obtain⟨x6,_⟩:=two_ok x5
     obtain⟨x7,_⟩:=fracS_ok x6
     exact x7
    obtain⟨hA,hg⟩:=factor_ok hd hF
    obtain⟨_,hy⟩:=adm_ok hpol hd.s hd.m hd.n1 hd.n2 hA
    have hN:0 < l.1:=by have:=hd.n1;omega
    have hmo:=mat_ok hN hy hg (show (matE (factorE A l n 2 (admE A n e).2).2 (admE A n e).1 (factorE A l n 2 (admE A n e).2).1).2=0 by rw [hm];exact hM)
    rw [hm] at hmo
    exact⟨hX,hM,(step_ok hN hs hmo.2 hX).2⟩
   have hq':∀ (i:Nat) (l':L5),rs[i]?=some l'->∃ d,Qtr A l' (n+1+i) l'.1 d w:=fun i l' hl=>by
    have:=hq (i+1) l' hl
    rw [show n+(i+1)=n+1+i by omega] at this
    exact this
   -- either way
   by_cases cX:X.2=0
   ·obtain⟨_,_,hst⟩:=key cX
    obtain⟨_,h2⟩:=ih (n+1) X.1 a X.2 (stepQ s l.1) hq' hst h
    exact⟨c,h2⟩
   ·exfalso
    cases rs with
    | nil=>exact cX h
    | cons l2 rs2=>rw [thrE_cons,if_neg cX] at h;exact cX h
  ·rw [if_neg c] at h;exact absurd h c
def yv:List Int->Int->Int × Int
 | [],on=>(on,10000)
 | N::r,on=>(N*N*(yv r on).2,100000000*(yv r on).1)
theorem yv_pos {on:Int}(ho:0 < on):∀ (l:List Int),(∀ N ∈ l,0 < N)->0 < (yv l on).1/\0 < (yv l on).2:=by
 intro l
 induction l with
 | nil=>intro _;exact⟨ho,by show (0:Int) < 10000;decide⟩
 | cons N r ih=>
  intro h
  obtain⟨h1,h2⟩:=ih fun x hx=>h x (List.mem_cons_of_mem _ hx)
  have hN:=h N (List.mem_cons_self ..)
  exact⟨Int.mul_pos (Int.mul_pos hN hN) h2,Int.mul_pos (by decide) h1⟩
def finY (s:SQ)(on:Int):Int × Int:=if s.odd=true then (s.D*s.D*10000,s.P*s.P*on) else (s.D*s.D*on,s.P*s.P*10000)
theorem fold_y {on:Int}:∀ (l:List Int) (s:SQ),finY (foldQ l s) on=if s.odd=true then (s.D*s.D*(yv l on).2,s.P*s.P*(yv l on).1) else (s.D*s.D*(yv l on).1,s.P*s.P*(yv l on).2):=by
 intro l
 induction l with
 | nil=>intro s;rfl
 | cons N r ih=>
  intro s
  show finY (foldQ r (stepQ s N)) on=_
  rw [ih,show yv (N::r) on=(N*N*(yv r on).2,100000000*(yv r on).1) from rfl]
  clear ih
  generalize yv r on=u
  unfold stepQ
  cases s.odd with
  | false=>
   simp only [Bool.false_eq_true,if_false,if_true]
   exact Prod.ext (by simp only;grind) (by simp only;grind)
  | true=>
   simp only [Bool.false_eq_true,if_false,if_true]
   exact Prod.ext (by simp only;grind) (by simp only;grind)
theorem amp_ok {A:Ask}{w on e:Int}(hpol:A.pol=0)(hs:A.s1=0/\A.s2=0)(hix:5000<=A.ix/\A.ix<=80000)(hon:5000<=on/\on<=80000)(hoi:A.oi=on)(hol:A.ol=0)
  (hq:∀ (i:Nat) (l:L5),A.ls[i]?=some l->∃ d,Qtr A l (1+i) l.1 d w) (h:(ampE A false e).2=0) :
  e=0/\Con (ampE A false e).1 (A.ix*(yv (A.ls.map fun l=>l.1) on).2 - 10000*(yv (A.ls.map fun l=>l.1) on).1) (A.ix*(yv (A.ls.map fun l=>l.1) on).2+10000*(yv (A.ls.map fun l=>l.1) on).1):=by
 unfold ampE at *
 rw [bnd_eq,bndT_eq,bnd_eq,bnd_eq,bnd_eq,bnd_eq,bnd_eq,bnd_eq,bnd_eq,if_neg (by decide),bnd_eq,bnd_eq] at h ⊢
 simp only at h ⊢
 generalize hf:admE A 0 e=f at *
 generalize ht:throughE A false f.2=t at *
 generalize hl:admE A (A.ls.length+1) t.2=l at *
 generalize h1:two timesE l.2 t.1.1.2.1 l.1=t1 at *
 generalize h2:two plusE t1.2 t.1.1.1 t1.1=b at *
 generalize h3:two timesE b.2 t.1.1.2.2.2 l.1=t2 at *
 generalize h4:two plusE t2.2 t.1.1.2.2.1 t2.1=c at *
 generalize h5:two timesE c.2 f.1 b.1=a at *
 generalize h6:two plusE a.2 a.1 c.1=d at *
 generalize h7:two minusE d.2 a.1 c.1=z at *
 generalize h8:two quoE z.2 z.1 d.1=v at *
 obtain⟨x8,y8⟩:=two_v h8 h
 obtain⟨x7,y7⟩:=two_v h7 x8
 obtain⟨x6,y6⟩:=two_v h6 x7
 obtain⟨x5,y5⟩:=two_v h5 x6
 obtain⟨x4,y4⟩:=two_v h4 x5
 obtain⟨x3,y3⟩:=two_v h3 x4
 obtain⟨x2,y2⟩:=two_v h2 x3
 obtain⟨x1,y1⟩:=two_v h1 x2
 have hlast:medE A (A.ls.length+1)=(on,on,0):=by
  rw [medE_none (List.getElem?_eq_none_iff.2 (Nat.le_refl _)),hoi,hol]
 obtain⟨xt,cl⟩:t.2=0/\Con l.1 on 10000:=by
  subst hl
  exact adm_ok hpol hs hlast hon.1 hon.2 x1
 have st0:StOk ⟨false,1,1⟩ (Bl1,Bl0,Bl0,Bl1):=⟨(by decide:(0:Int) < 1),(by decide:(0:Int) < 1),fun _=>⟨con_one,con_none,con_none,con_one⟩,fun h=>(by cases h)⟩
 obtain⟨xf,st⟩:f.2=0/\StOk (foldQ (A.ls.map fun l=>l.1) ⟨false,1,1⟩) t.1.1:=by
  subst ht
  exact thr_ok hpol A.ls 1 _ _ _ _ hq st0 xt
 obtain⟨x0,cf⟩:e=0/\Con f.1 A.ix 10000:=by
  subst hf
  exact adm_ok hpol hs (n:=0) rfl hix.1 hix.2 xf
 refine⟨x0,?_⟩
 have hy:=fold_y (on:=on) (A.ls.map fun l=>l.1) ⟨false,1,1⟩
 simp only [Bool.false_eq_true,if_false,Int.one_mul] at hy
 obtain⟨hP,hD,he,ho⟩:=st
 have hon0:0 < on:=by omega
 have hix0:0 < A.ix:=by omega
 generalize foldQ (A.ls.map fun l=>l.1) ⟨false,1,1⟩=s at *
 unfold finY at hy
 cases hodd:s.odd with
 | false=>
  rw [hodd,if_neg (by decide)] at hy
  obtain⟨c1,c2,c3,c4⟩:=he hodd
  have hy1:=congrArg Prod.fst hy
  have hy2:=congrArg Prod.snd hy
  simp only at hy1 hy2
  rw [<- hy1,<- hy2]
  have kb:=con_eq (cplus y2 x3 c1 (ctimes y1 x2 c2 cl)) (P':=s.P) (D':=s.D) hD (by grind)
  have pP:=Int.mul_pos hP (show (0:Int) < 10000 by decide)
  have kc:=con_eq (cplus y4 x5 c3 (ctimes y3 x4 c4 cl)) (P':=s.D*on) (D':=s.P*10000) pP (by grind)
  have ka:=ctimes y5 x6 cf kb
  have kd:=cplus y6 x7 ka kc
  have kz:=cminus y7 x8 ka kc
  have p1:=Int.mul_pos (Int.mul_pos hix0 hP) pP
  have p2:=Int.mul_pos (Int.mul_pos hD hon0) (Int.mul_pos (show (0:Int) < 10000 by decide) hD)
  have kv:=cquo y8 h kz kd (by omega)
  refine con_eq kv ?_ (by grind)
  have q1:=Int.mul_pos hix0 (Int.mul_pos (Int.mul_pos hP hP) (show (0:Int) < 10000 by decide))
  have q2:=Int.mul_pos (show (0:Int) < 10000 by decide) (Int.mul_pos (Int.mul_pos hD hD) hon0)
  omega
 | true=>
  rw [hodd,if_pos rfl] at hy
  obtain⟨c1,c2,c3,c4⟩:=ho hodd
  have hy1:=congrArg Prod.fst hy
  have hy2:=congrArg Prod.snd hy
  simp only at hy1 hy2
  rw [<- hy1,<- hy2]
  have dT:=Int.mul_pos hD (show (0:Int) < 10000 by decide)
  have kb:=con_eq (cplus y2 x3 c1 (ctimes y1 x2 c2 cl)) (P':=s.P*on) (D':=s.D*10000) dT (by grind)
  have kc:=con_eq (cplus y4 x5 c3 (ctimes y3 x4 c4 cl)) (P':=s.D) (D':=s.P) hP (by grind)
  have ka:=ctimes y5 x6 cf kb
  have kd:=cplus y6 x7 ka kc
  have kz:=cminus y7 x8 ka kc
  have p1:=Int.mul_pos (Int.mul_pos hix0 (Int.mul_pos hP hon0)) hP
  have p2:=Int.mul_pos hD (Int.mul_pos (show (0:Int) < 10000 by decide) dT)
  have kv:=cquo y8 h kz kd (by omega)
  refine con_eq kv ?_ (by grind)
  have q1:=Int.mul_pos hix0 (Int.mul_pos (Int.mul_pos hP hP) hon0)
  have q2:=Int.mul_pos (show (0:Int) < 10000 by decide) (Int.mul_pos (Int.mul_pos hD hD) (show (0:Int) < 10000 by decide))
  omega
end Go.AM.K
