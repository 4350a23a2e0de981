/- A medium without loss, light that falls straight: its normal index contains its index. -/
import Derived.Test.YtaondhhdefbfkaaGreatYX2
namespace Go.AM.K
set_option linter.unusedVariables false
set_option linter.unusedSimpArgs false
theorem two_ok {op:Bl->Bl->Bl × Int}{e:Int}{a b:Bl}(h:(two op e a b).2=0):e=0/\two op e a b=op a b/\(op a b).2=0:=by
 unfold two at *
 by_cases c:e=0
 ·rw [if_pos c] at *;exact⟨c,rfl,h⟩
 ·rw [if_neg c] at h;exact absurd h c
theorem realS_ok {e lo hi:Int}(h:(realS e lo hi).2=0):e=0/\realS e lo hi=rangeE lo hi/\(rangeE lo hi).2=0:=by
 unfold realS at *
 by_cases c:e=0
 ·rw [if_pos c] at *;exact⟨c,rfl,h⟩
 ·rw [if_neg c] at h;exact absurd h c
theorem fracS_ok {e n d:Int}(h:(fracS e n d).2=0):e=0/\fracS e n d=fracE n d/\(fracE n d).2=0:=by
 unfold fracS at *
 by_cases c:e=0
 ·rw [if_pos c] at *;exact⟨c,rfl,h⟩
 ·rw [if_neg c] at h;exact absurd h c
theorem prtE_ok {e:Int}{a:Bl}(h:(prtE e a).2=0):e=0/\prtE e a=((a.lo1,a.hi1,a.lo2,a.hi2),0):=by
 unfold prtE at *
 by_cases c:e=0
 ·rw [if_pos c] at *;exact⟨c,rfl⟩
 ·rw [if_neg c] at h;exact absurd h c
theorem dnI_eq {n d:Int}(h0:0<=n)(h1:n<=4611686018427387904)(hd:0 < d):dnI n d=n / d:=by
 unfold dnI
 rw [Int.tdiv_eq_ediv_of_nonneg h0]
 have a:=Int.ediv_nonneg h0 (Int.le_of_lt hd)
 have b:=Int.ediv_le_self d h0
 rw [w64_in (by omega) (by omega)]
theorem upI_eq {n d:Int}(h0:0<=n)(h1:n<=4611686018427387904)(hd:0 < d)(hd2:d<=1000000000):upI n d=(n+d - 1) / d:=by
 unfold upI
 rw [w64_in (n:=n+d) (by omega) (by omega),w64_in (n:=n+d - 1) (by omega) (by omega),Int.tdiv_eq_ediv_of_nonneg (by omega)]
 have a:=Int.ediv_nonneg (a:=n+d - 1) (by omega) (Int.le_of_lt hd)
 have b:=Int.ediv_le_self (a:=n+d - 1) d (by omega)
 rw [w64_in (by omega) (by omega)]
theorem index_ok {A:Ask}{n:Nat}{N e:Int}(hm:medE A n=(N,N,0))(h1:5000<=N)(h2:N<=80000)(h:(indexE A n e).2=0) :
  e=0/\Con (indexE A n e).1 N 10000/\∃ r,(0<=r/\r<=1)/\(indexE A n e).1.b=(N*1048576 / 10000,0,r):=by
 have key:indexE A n e=realS e (N*1048576 / 10000) ((N*1048576+10000 - 1) / 10000):=by
  unfold indexE
  rw [hm,bnd_eq]
  simp only
  rw [if_pos trivial,w64_in (n:=N*1048576) (by omega) (by omega),dnI_eq (by omega) (by omega) (by decide),upI_eq (by omega) (by omega) (by decide) (by decide)]
 rw [key] at h ⊢
 obtain⟨e0,e1,e2⟩:=realS_ok h
 rw [e1]
 obtain⟨c1,c2⟩:=con_range (lo:=N*1048576 / 10000) (hi:=(N*1048576+10000 - 1) / 10000) (P:=N) (D:=10000) (by decide) (by omega) (by omega) e2
 refine⟨e0,c1,(N*1048576+10000 - 1) / 10000 - N*1048576 / 10000,by omega,?_⟩
 rw [c2]
 have:(N*1048576 / 10000+(N*1048576+10000 - 1) / 10000) / 2=N*1048576 / 10000:=by omega
 rw [this]
theorem upc_real {L r:Int}(h0:0<=L)(h1:L<=67108864)(hr:0<=r/\r<=67108864):upc (L,0,r)=L:=by
 have ok:okS (L,0,r)=true:=okS_iff.2 ⟨⟨by show -67108864<=L;omega,h1⟩,(show (-67108864:Int)<=0/\(0:Int)<=67108864 by decide),hr⟩
 have a:=upc_le (a:=(L,0,r)) ok (r:=L) ⟨h0,by show L*L+0*0<=L*L;omega⟩
 have b:=(nle_x (nle_up (a:=(L,0,r)) ok)).2
 have b':L<=upc (L,0,r):=b
 omega
theorem rtd_lt {n:Int}(h1:0<=n)(h2:n < 288230376151711744):n < (rtd n+1)*(rtd n+1):=by
 have:=(isq_bd (n:=n.toNat) (by omega)).2
 have e:(((isq n.toNat+1)*(isq n.toNat+1):Nat):Int)=(rtd n+1)*(rtd n+1):=by unfold rtd;push_cast;rfl
 rw [<- e]
 omega
theorem rtu_ge {n:Int}(h1:0<=n)(h2:n < 288230376151711744):n<=rtu n*rtu n/\rtu n<=rtd n+1/\0<=rtu n:=by
 have a:=rtd_lt h1 h2
 have b:=rtd_bd h1 h2
 unfold rtu
 by_cases c:rtd n*rtd n < n
 ·rw [if_pos c];exact⟨by omega,by omega,by omega⟩
 ·rw [if_neg c];exact⟨by omega,by omega,by omega⟩
def NrmOk (N a b:Int)(q:Bl):Prop:=
 q.b=((a+b) / 2,0,b - (a+b) / 2)/\Con q N 10000/\a<=b/\a*10000<=N*1048576/\N*1048576<=b*10000/\N*1048576 - 200000<=a*10000/\b*10000<=N*1048576+200000
theorem rr_ok {N V rad:Int}(h1:5000<=N)(h2:N<=80000)(hrad:0<=rad/\rad<=18)(hV:2*(V*1048576 - N*1048576 / 10000*(N*1048576 / 10000))<=1048576/\-1048576<=2*(V*1048576 - N*1048576 / 10000*(N*1048576 / 10000)))
  (c1:100000000*(V - rad)<=N*N*1048576) (c2:N*N*1048576<=100000000*(V+rad)) (h:(rrootE (V - rad) (V+rad)).2=0) :
  ∃ a b,NrmOk N a b (rrootE (V - rad) (V+rad)).1/\0 < V - rad:=by
 have hL1:524288<=N*1048576 / 10000:=by omega
 have hL2:N*1048576 / 10000<=8388608:=by omega
 have hL3:N*1048576 / 10000*10000<=N*1048576:=by omega
 have hL4:N*1048576 < N*1048576 / 10000*10000+10000:=by omega
 generalize N*1048576 / 10000=L at *
 have hLL:=mulB (x:=L) (y:=L) (A:=8388608) (B:=8388608) (by omega) hL2 (by omega) hL2
 have hLL2:524288*524288<=L*L:=Int.mul_le_mul hL1 hL1 (by decide) (by omega)
 have hlo:262000<=V - rad:=by omega
 have hhi:V+rad<=67108900:=by omega
 unfold rrootE at *
 by_cases c:(rangeE (V - rad) (V+rad)).2 ≠ 0
 ·rw [if_pos c] at h;exact absurd h c
 ·rw [if_neg c,if_pos (by omega)] at h ⊢
  have bl:=rtd_bd (n:=(V - rad)*1048576) (by omega) (by omega)
  have ql:=rtd_sq (n:=(V - rad)*1048576) (by omega) (by omega)
  have tl:=rtd_lt (n:=(V - rad)*1048576) (by omega) (by omega)
  have bu:=rtd_bd (n:=(V+rad)*1048576) (by omega) (by omega)
  have qu:=rtd_sq (n:=(V+rad)*1048576) (by omega) (by omega)
  obtain⟨tu,tu2,tu3⟩:=rtu_ge (n:=(V+rad)*1048576) (by omega) (by omega)
  generalize rtd ((V - rad)*1048576)=a at *
  generalize rtu ((V+rad)*1048576)=b at *
  generalize rtd ((V+rad)*1048576)=b0 at *
  have r1:a*10000<=N*1048576:=by
   refine le_of_sq (by omega) ?_
   have e1:a*10000*(a*10000)=100000000*(a*a):=by grind
   have e2:N*1048576*(N*1048576)=N*N*1048576*1048576:=by grind
   omega
  have r2:N*1048576<=b*10000:=by
   refine le_of_sq (by omega) ?_
   have e1:b*10000*(b*10000)=100000000*(b*b):=by grind
   have e2:N*1048576*(N*1048576)=N*N*1048576*1048576:=by grind
   omega
  have r3:L - 19<=a:=by
   have:L - 19 < a+1:=by
    have hh:L - 19<=a+1:=by
     refine le_of_sq (by omega) ?_
     have e1:(L - 19)*(L - 19)=L*L - 38*L+361:=by grind
     omega
    rcases Int.lt_or_eq_of_le hh with h' | h'
    ·exact h'
    ·exfalso
     rw [<- h'] at tl
     have e1:(L - 19)*(L - 19)=L*L - 38*L+361:=by grind
     omega
   omega
  have r4:b0<=L+19:=by
   refine le_of_sq (by omega) ?_
   have e1:(L+19)*(L+19)=L*L+38*L+361:=by grind
   omega
  have hab:a<=b:=by omega
  obtain⟨k1,k2⟩:=con_range (lo:=a) (hi:=b) (P:=N) (D:=10000) (by decide) (by omega) (by omega) h
  exact⟨a,b,⟨k2,k1,hab,r1,r2,by omega,by omega⟩,by omega⟩
theorem range00:rangeE 0 0=(⟨(0,0,0),by decide⟩,0):=by kernel_rfl
theorem times00:timesE ⟨(0,0,0),by decide⟩ ⟨(0,0,0),by decide⟩=(⟨(0,0,0),by decide⟩,0):=by kernel_rfl
theorem con_0:Con ⟨(0,0,0),by decide⟩ 0 1:=⟨by decide,by show (0:Int)<=1*0/\(1*0 - 0*1048576)*(1*0 - 0*1048576)+1*0*(1*0)<=(1*0:Int)*(1*0);decide⟩
theorem bl_lo {q:Bl}{x r:Int}(h:q.b=(x,0,r)):q.lo1=x - r/\q.hi1=x+r:=by
 unfold Bl.lo1 Bl.hi1
 rw [h];exact⟨rfl,rfl⟩
theorem normal_ok {A:Ask}{n:Nat}{N e:Int}(hs:A.s1=0/\A.s2=0)(hm:medE A n=(N,N,0))(h1:5000<=N)(h2:N<=80000)(h:(normalE A n e).2.2=0) :
  e=0/\(normalE A n e).2.1=false/\∃ a b,NrmOk N a b (normalE A n e).1:=by
 have z1:dnI (w64 (w64 (A.ix*A.s1)*1048576)) 100000000=0:=by rw [hs.1,Int.mul_zero];decide
 have z2:upI (w64 (w64 (A.ix*A.s2)*1048576)) 100000000=0:=by rw [hs.2,Int.mul_zero];decide
 unfold normalE at *
 rw [z1,z2,bnd_eq,bnd_eq,bnd_eq,bnd_eq,bnd_eq,hm] at h ⊢
 simp only [if_true] at h ⊢
 rw [bndP_eq] at h ⊢
 generalize hI:indexE A n e=I at *
 generalize hR:realS I.2 0 0=R at *
 generalize hV:two timesE R.2 I.1 I.1=V at *
 generalize hC:two timesE V.2 R.1 R.1=C at *
 generalize hM:two minusE C.2 V.1 C.1=M at *
 by_cases c:(prtE M.2 M.1).2=0
 ·rw [if_pos c,bnd_eq] at h ⊢
  obtain⟨eM,eP⟩:=prtE_ok c
  rw [eP] at h ⊢
  subst hM
  obtain⟨eC,eM1,eM2⟩:=two_ok eM
  rw [eM1] at h ⊢
  subst hC
  obtain⟨eV,eC1,eC2⟩:=two_ok eC
  rw [eC1] at h ⊢ eM2
  subst hV
  obtain⟨eR,eV1,eV2⟩:=two_ok eV
  rw [eV1] at h ⊢ eM2
  subst hR
  obtain⟨eI,eR1,eR2⟩:=realS_ok eR
  rw [eR1,range00] at h ⊢ eM2
  simp only at h ⊢ eM2
  rw [times00] at h ⊢ eM2
  simp only at h ⊢ eM2
  subst hI
  obtain⟨e0,cI,r,hr,hb⟩:=index_ok hm h1 h2 eI
  refine⟨e0,?_⟩
  have cV:=con_times cI cI eV2
  obtain⟨bV,_⟩:=toBl_ok eV2
  have cM:=con_minus cV con_0 eM2
  obtain⟨bM,_⟩:=toBl_ok eM2
  have hL1:524288<=N*1048576 / 10000:=by omega
  have hL2:N*1048576 / 10000<=8388608:=by omega
  have hup:=upc_real (L:=N*1048576 / 10000) (r:=r) (by omega) (by omega) (by omega)
  -- the square's ball
  have hVb:∃ rad,(0<=rad/\rad<=18)/\(minusE (timesE (indexE A n e).1 (indexE A n e).1).1 ⟨(0,0,0),by decide⟩).1.b=(rdv (N*1048576 / 10000*(N*1048576 / 10000)) 1048576,0,rad):=by
   have g:=(Bl.bd (timesE (indexE A n e).1 (indexE A n e).1).1).2.2.1
   have q0:(minusE (timesE (indexE A n e).1 (indexE A n e).1).1 ⟨(0,0,0),by decide⟩).1.b=mis (timesE (indexE A n e).1 (indexE A n e).1).1.b (0,0,0):=bM
   have q1:(timesE (indexE A n e).1 (indexE A n e).1).1.b=tmB (indexE A n e).1.b (indexE A n e).1.b:=bV
   rw [q1,hb] at q0
   have q2:tmB (N*1048576 / 10000,0,r) (N*1048576 / 10000,0,r)=(rdv (N*1048576 / 10000*(N*1048576 / 10000)) 1048576,0,(tmB (N*1048576 / 10000,0,r) (N*1048576 / 10000,0,r)).2.2):=by
    unfold tmB tmP tmQ
    simp only [Int.mul_zero,Int.zero_mul,Int.sub_zero,Int.add_zero]
    rfl
   have q3:0<=(tmB (N*1048576 / 10000,0,r) (N*1048576 / 10000,0,r)).2.2/\(tmB (N*1048576 / 10000,0,r) (N*1048576 / 10000,0,r)).2.2<=18:=by
    rw [q1,hb] at g
    refine⟨g,?_⟩
    unfold tmB
    simp only
    rw [hup]
    have m1:=mulB (x:=N*1048576 / 10000) (y:=r) (A:=8388608) (B:=1) (by omega) hL2 hr.1 hr.2
    have m2:=mulB (x:=r) (y:=r) (A:=1) (B:=1) hr.1 hr.2 hr.1 hr.2
    generalize N*1048576 / 10000*r=x at *
    generalize r*r=y at *
    have:cdv (x+x+y) 1048576<=17:=by unfold cdv;omega
    split <;> omega
   generalize (tmB (N*1048576 / 10000,0,r) (N*1048576 / 10000,0,r)).2.2=rad at *
   rw [q2] at q0
   refine⟨rad,q3,?_⟩
   rw [q0]
   unfold mis
   simp only [Int.sub_zero,Int.add_zero]
  obtain⟨rad,hrad,hMb⟩:=hVb
  obtain⟨l1,l2⟩:=bl_lo hMb
  rw [l1,l2] at h ⊢
  have hV2:2*(rdv (N*1048576 / 10000*(N*1048576 / 10000)) 1048576*1048576 - N*1048576 / 10000*(N*1048576 / 10000))<=1048576/\-1048576<=2*(rdv (N*1048576 / 10000*(N*1048576 / 10000)) 1048576*1048576 - N*1048576 / 10000*(N*1048576 / 10000)):=by
   unfold rdv;omega
  have hx:=nle_x cM.2
  rw [hMb] at hx
  simp only at hx
  generalize rdv (N*1048576 / 10000*(N*1048576 / 10000)) 1048576=V at *
  obtain⟨a,b,k1,k2⟩:=rr_ok (V:=V) (rad:=rad) h1 h2 hrad hV2 (by omega) (by omega) h
  exact⟨decide_eq_false (by omega),a,b,k1⟩
 ·rw [if_neg c] at h;exact absurd h c
end Go.AM.K
