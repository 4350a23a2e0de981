/- Quarter waves: the matrices, and the reflected amplitude, contain fractions. -/
import Derived.Test.YtaondhhdefbfkaaGreatYX4
namespace Go.AM.K
open Go.AM
set_option linter.unusedVariables false
set_option linter.unusedSimpArgs false
theorem con_eq {b:Bl}{P D P' D':Int}(h:Con b P D)(hD:0 < D')(he:P*D'=P'*D):Con b P' D':=by
 have h0:=h.1
 have g:=b.bd
 refine⟨hD,?_⟩
 have h1:=nle_scale D' h.2
 rw [show ((D'.natAbs:Nat):Int)=D' by omega] at h1
 refine nle_div (k:=D) h0 (Int.mul_nonneg (Int.le_of_lt hD) g.2.2.1) (nle_mono (nle_eq h1 ?_ ?_) (Int.le_of_eq ?_))
 ·have e1:D*(D'*b.b.1 - P'*1048576)=D*(D'*b.b.1) - P'*D*1048576:=by grind
  have e2:D'*(D*b.b.1 - P*1048576)=D*(D'*b.b.1) - P*D'*1048576:=by grind
  rw [e1,e2,he]
 ·grind
 ·grind
theorem frac12:fracE 1 2=(⟨(524288,0,0),by decide⟩,0):=by kernel_rfl
theorem con_half:Con ⟨(524288,0,0),by decide⟩ 1 2:=⟨by decide,by show (0:Int)<=2*0/\(2*524288 - 1*1048576)*(2*524288 - 1*1048576)+2*0*(2*0)<=(2*0:Int)*(2*0);decide⟩
theorem adm_ok {A:Ask}{n:Nat}{N e:Int}(hp:A.pol=0)(hs:A.s1=0/\A.s2=0)(hm:medE A n=(N,N,0))(h1:5000<=N)(h2:N<=80000)(h:(admE A n e).2=0):e=0/\Con (admE A n e).1 N 10000:=by
 unfold admE at *
 rw [bndN_eq,if_pos hp] at h ⊢
 obtain⟨e0,_,a,b,hn⟩:=normal_ok hs hm h1 h2 h
 exact⟨e0,hn.2.1⟩
theorem two_v {op:Bl->Bl->Bl × Int}{e:Int}{a b:Bl}{v:Bl × Int}(hv:two op e a b=v)(h:v.2=0):e=0/\op a b=v:=by
 subst hv
 obtain⟨h1,h2,_⟩:=two_ok h
 exact⟨h1,h2.symm⟩
theorem cplus {a b:Bl}{P D Q E:Int}{v:Bl × Int}(hv:plusE a b=v)(h:v.2=0)(ha:Con a P D)(hb:Con b Q E):Con v.1 (P*E+Q*D) (D*E):=by subst hv;exact con_plus ha hb h
theorem cminus {a b:Bl}{P D Q E:Int}{v:Bl × Int}(hv:minusE a b=v)(h:v.2=0)(ha:Con a P D)(hb:Con b Q E):Con v.1 (P*E - Q*D) (D*E):=by subst hv;exact con_minus ha hb h
theorem ctimes {a b:Bl}{P D Q E:Int}{v:Bl × Int}(hv:timesE a b=v)(h:v.2=0)(ha:Con a P D)(hb:Con b Q E):Con v.1 (P*Q) (D*E):=by subst hv;exact con_times ha hb h
theorem cquo {a b:Bl}{P D Q E:Int}{v:Bl × Int}(hv:quoE a b=v)(h:v.2=0)(ha:Con a P D)(hb:Con b Q E)(hQ:0 < Q):Con v.1 (P*E) (D*Q):=by subst hv;exact con_quo ha hb hQ h
theorem mat_ok {e N:Int}{y g:Bl}(hN:0 < N)(hy:Con y N 10000)(hg:Con g (-1) 1)(h:(matE e y g).2=0) :
  e=0/\Con (matE e y g).1.1 0 1/\Con (matE e y g).1.2.1 10000 N/\Con (matE e y g).1.2.2.1 N 10000/\Con (matE e y g).1.2.2.2 0 1:=by
 unfold matE at *
 rw [bnd_eq,bnd_eq,bnd_eq,bnd_eq,bnd_eq,bnd_eq,bnd_eq] at h ⊢
 simp only at h ⊢
 generalize hh:fracS e 1 2=h1 at *
 generalize ha:two plusE h1.2 Bl1 g=a at *
 generalize hu:two timesE a.2 a.1 h1.1=u at *
 generalize hb:two minusE u.2 Bl1 g=b at *
 generalize hc:two timesE b.2 b.1 h1.1=c at *
 generalize hv:two quoE c.2 c.1 y=v at *
 generalize hw:two timesE v.2 c.1 y=w at *
 obtain⟨ev,w1⟩:=two_v hw h
 obtain⟨ec,v1⟩:=two_v hv ev
 obtain⟨eb,c1⟩:=two_v hc ec
 obtain⟨eu,b1⟩:=two_v hb eb
 obtain⟨ea,u1⟩:=two_v hu eu
 obtain⟨eh,a1⟩:=two_v ha ea
 have k0:e=0/\Con h1.1 1 2:=by
  subst hh
  obtain⟨e0,h2,h3⟩:=fracS_ok eh
  rw [h2,frac12]
  exact⟨e0,con_half⟩
 have ka:=cplus a1 ea con_one hg
 have ku:=ctimes u1 eu ka k0.2
 have kb:=cminus b1 eb con_one hg
 have kc:=con_eq (ctimes c1 ec kb k0.2) (P':=1) (D':=1) (by decide) (by decide)
 have kv:=cquo v1 ev kc hy hN
 have kw:=ctimes w1 h kc hy
 exact⟨k0.1,con_eq ku (by decide) (by decide),con_eq kv hN (by omega),con_eq kw (by decide) (by omega),con_eq ku (by decide) (by decide)⟩
theorem mul_ok {e:Int}{p m:Mt}{p1 q1 p2 q2 p3 q3 p4 q4 m1 n1 m2 n2 m3 n3 m4 n4:Int}(hp:Con p.1 p1 q1/\Con p.2.1 p2 q2/\Con p.2.2.1 p3 q3/\Con p.2.2.2 p4 q4)
  (hm:Con m.1 m1 n1/\Con m.2.1 m2 n2/\Con m.2.2.1 m3 n3/\Con m.2.2.2 m4 n4) (h:(mulE e p m).2=0) :
  e=0/\Con (mulE e p m).1.1 (p1*m1*(q2*n3)+p2*m3*(q1*n1)) (q1*n1*(q2*n3))/\Con (mulE e p m).1.2.1 (p1*m2*(q2*n4)+p2*m4*(q1*n2)) (q1*n2*(q2*n4)) /\
   Con (mulE e p m).1.2.2.1 (p3*m1*(q4*n3)+p4*m3*(q3*n1)) (q3*n1*(q4*n3))/\Con (mulE e p m).1.2.2.2 (p3*m2*(q4*n4)+p4*m4*(q3*n2)) (q3*n2*(q4*n4)):=by
 obtain⟨hp1,hp2,hp3,hp4⟩:=hp
 obtain⟨hm1,hm2,hm3,hm4⟩:=hm
 unfold mulE at *
 rw [bnd_eq,bnd_eq,bnd_eq,bnd_eq,bnd_eq,bnd_eq,bnd_eq,bnd_eq,bnd_eq,bnd_eq,bnd_eq,bnd_eq] at h ⊢
 simp only at h ⊢
 generalize ha1:two timesE e p.1 m.1=a1 at *
 generalize ha2:two timesE a1.2 p.2.1 m.2.2.1=a2 at *
 generalize ha:two plusE a2.2 a1.1 a2.1=a at *
 generalize hb1:two timesE a.2 p.1 m.2.1=b1 at *
 generalize hb2:two timesE b1.2 p.2.1 m.2.2.2=b2 at *
 generalize hb:two plusE b2.2 b1.1 b2.1=b at *
 generalize hc1:two timesE b.2 p.2.2.1 m.1=c1 at *
 generalize hc2:two timesE c1.2 p.2.2.2 m.2.2.1=c2 at *
 generalize hc:two plusE c2.2 c1.1 c2.1=c at *
 generalize hd1:two timesE c.2 p.2.2.1 m.2.1=d1 at *
 generalize hd2:two timesE d1.2 p.2.2.2 m.2.2.2=d2 at *
 generalize hd:two plusE d2.2 d1.1 d2.1=d at *
 obtain⟨x1,y1⟩:=two_v hd h
 obtain⟨x2,y2⟩:=two_v hd2 x1
 obtain⟨x3,y3⟩:=two_v hd1 x2
 obtain⟨x4,y4⟩:=two_v hc x3
 obtain⟨x5,y5⟩:=two_v hc2 x4
 obtain⟨x6,y6⟩:=two_v hc1 x5
 obtain⟨x7,y7⟩:=two_v hb x6
 obtain⟨x8,y8⟩:=two_v hb2 x7
 obtain⟨x9,y9⟩:=two_v hb1 x8
 obtain⟨x10,y10⟩:=two_v ha x9
 obtain⟨x11,y11⟩:=two_v ha2 x10
 obtain⟨x12,y12⟩:=two_v ha1 x11
 exact⟨x12,cplus y10 x9 (ctimes y12 x11 hp1 hm1) (ctimes y11 x10 hp2 hm3),cplus y7 x6 (ctimes y9 x8 hp1 hm2) (ctimes y8 x7 hp2 hm4),
  cplus y4 x3 (ctimes y6 x5 hp3 hm1) (ctimes y5 x4 hp4 hm3),cplus y1 h (ctimes y3 x2 hp3 hm2) (ctimes y2 x1 hp4 hm4)⟩
end Go.AM.K
