/- Balls: quotients. -/
import Derived.Test.YtmcplmhohldpjaaGreatYWb
namespace Go.AM.K
set_option linter.unusedVariables false
set_option linter.unusedSimpArgs false
variable {α:Type}
def sz (x:Int):Int:=if 0 - x > x then 0 - x else x
theorem X5 {x B:Int}(h1:-B<=x)(h2:x<=B):0<=sz x/\sz x<=B:=by unfold sz;split <;> omega
theorem Eq {x:Int}(h1:-4611686018427387904<=x)(h2:x<=4611686018427387904){k:Int->Option α}:nw α x k=k (sz x):=by
 simp only [nw,af,NI]
 rw [ak (n:=0 - x) (by omega) (by omega)]
 rfl
def dC (n d:Int):Int × Bool:=
 if d<=sz n*1048576 / 18446744073709551616 then (2147483647,false) else
 if 2147483647 < sz n*1048576 / d then (2147483647,false) else
 let q:=if d < 2*(sz n*1048576 % d)\/(0<=n/\2*(sz n*1048576 % d)=d) then sz n*1048576 / d+1 else sz n*1048576 / d
 (if n < 0 then 0 - q else q,sz n*1048576 % d != 0)
theorem apx {n d r:Int}(hd:0 < d)(hd2:d<=36028797018963968)(hr:0<=r)(hr2:r < d){k:Bool->Option α} :
  nG α n d r k=if d < 2*r\/(0<=n/\2*r=d) then k true else k false:=by
 simp only [nG,af,C6]
 rw [eC (n:=d) (by omega) (by omega),eC (n:=2*r) (by omega) (by omega),bi,bi]
 by_cases h1:d < 2*r
 ·rw [if_pos h1,if_pos (Or.inl h1)]
 ·rw [if_neg h1]
  by_cases h2:0<=n
  ·rw [if_pos h2]
   by_cases h3:2*r=d
   ·rw [if_pos (Or.inr ⟨h2,h3⟩),beq_iff_eq.2 h3]
   ·rw [if_neg (by omega),beq_eq_false_iff_ne.2 h3]
  ·rw [if_neg h2,if_neg (by omega)]
theorem xg {n d:Int}(h1:-36028797018963968<=n)(h2:n<=36028797018963968)(hd:0 < d)(hd2:d<=36028797018963968){k:Int->Bool->Option α} :
  lC α n 1048576 d k=k (dC n d).1 (dC n d).2:=by
 have hs:=X5 h1 h2
 simp only [lC,af,Pa]
 rw [Eq (by omega) (by omega),eC (n:=sz n) (by omega) (by omega),eC (n:=1048576) (by decide) (by decide),ON (by omega) (by omega) (by decide) (by decide),eC (n:=d) (by omega) (by omega),bi]
 unfold dC
 generalize hN:sz n*1048576=N
 by_cases c1:d<=N / 18446744073709551616
 ·rw [if_pos c1,if_pos c1]
 ·rw [if_neg c1,if_neg c1,Oc (by omega) (by omega) (by omega) (by omega) (by omega),show N / 18446744073709551616*18446744073709551616+N % 18446744073709551616=N by omega,bi]
  have hr1:=Int.emod_nonneg N (show d ≠ 0 by omega)
  have hr2:=Int.emod_lt_of_pos N hd
  have hq:0<=N / d:=Int.ediv_nonneg (by omega) (by omega)
  generalize N % d=r at *
  generalize N / d=u at *
  by_cases c2:2147483647 < u
  ·rw [if_pos c2,if_pos c2]
  ·rw [if_neg c2,if_neg c2,apx hd hd2 hr1 hr2]
   have e1:w64 u=u:=ak (by omega) (by omega)
   have e2:w64 (u+1)=u+1:=ak (by omega) (by omega)
   have e3:w64 (0 - u)=0 - u:=ak (by omega) (by omega)
   have e4:w64 (0 - (u+1))=0 - (u+1):=ak (by omega) (by omega)
   simp only [aq,ap,e1,e2,e3,e4,bi]
   by_cases c3:d < 2*r\/(0<=n/\2*r=d)
   ·simp only [if_pos c3]
    by_cases c4:n < 0
    ·simp only [if_pos c4]
    ·simp only [if_neg c4]
   ·simp only [if_neg c3]
    by_cases c4:n < 0
    ·simp only [if_pos c4]
    ·simp only [if_neg c4]
def zw (n d:Int):Int:=
 if d<=n*1048576 / 18446744073709551616 then 2147483647 else
 if 2147483647<=n*1048576 / d then 2147483647 else
 if n*1048576 % d ≠ 0 then n*1048576 / d+1 else n*1048576 / d
theorem afG {n d:Int}(h1:0<=n)(h2:n<=36028797018963968)(hd:0 < d)(hd2:d<=36028797018963968){k:Int->Option α} :
  Bj α n 1048576 d k=k (zw n d):=by
 simp only [Bj,af,MO]
 rw [eC (n:=n) (by omega) (by omega),eC (n:=1048576) (by decide) (by decide),ON (by omega) (by omega) (by decide) (by decide),eC (n:=d) (by omega) (by omega),bi]
 unfold zw
 generalize hN:n*1048576=N
 by_cases c1:d<=N / 18446744073709551616
 ·rw [if_pos c1,if_pos c1]
 ·rw [if_neg c1,if_neg c1,Oc (by omega) (by omega) (by omega) (by omega) (by omega),show N / 18446744073709551616*18446744073709551616+N % 18446744073709551616=N by omega,bi]
  have hq:0<=N / d:=Int.ediv_nonneg (by omega) (by omega)
  generalize N % d=r at *
  generalize N / d=u at *
  by_cases c2:2147483647<=u
  ·rw [if_pos c2,if_pos c2]
  ·rw [if_neg c2,if_neg c2,eC (n:=u+1) (by omega) (by omega),ak (n:=u+1) (by omega) (by omega),ak (n:=u) (by omega) (by omega)]
   by_cases c3:r=0
   ·rw [c3,if_neg (fun h=>h rfl),show ((0:Int) != 0)=false from rfl,ap]
   ·rw [if_pos c3,bne_iff_ne.2 c3,aq]
def cjB (a:B3):B3:=(a.1,0 - a.2.1,a.2.2)
def ajr (a b:Bl):B3:=
 ((dC (tmP a.b (cjB b.b)) (sqn b.b)).1,(dC (tmQ a.b (cjB b.b)) (sqn b.b)).1,
  w64 (zw (a.b.2.2*b.up+a.up*b.b.2.2) ((b.dn - b.b.2.2)*b.dn)+(if (dC (tmP a.b (cjB b.b)) (sqn b.b)).2 || (dC (tmQ a.b (cjB b.b)) (sqn b.b)).2 then 1 else 0)))
def mG (a b:Bl):Bl × Int:=if b.dn<=b.b.2.2 then (Bl0,9) else pz (ajr a b)
theorem aku {b:Bool}{k:Int->Option α}:jw α b k=k (if b then 1 else 0):=by
 rw [jw,af,xX];cases b <;> rfl
theorem I1 {n:Nat}(h:n < 288230376151711744):isq n*isq n<=n:=(il h).1
theorem ae0 (a b:Bl){k:Nat->Nat->Int->Int->Option α}:zF α a.n1 a.n2 a.r b.n1 b.n2 b.r k=KB k (mG a b):=by
 have g:=a.bd
 have h:=b.bd
 have d:=b.dn_bd
 have u:=b.up_bd
 have v:=a.up_bd
 obtain⟨s1,s2⟩:=j6 b.ok
 simp only [zF,af,OD,Fq,af,Oe,qk,bne_self_eq_false,ap,FW,af,Oa,DP,af,NP,FI,af,MI,xT]
 show cK (decide (b.dn<=b.b.2.2)) _ _=_
 rw [bi]
 unfold mG
 by_cases c:b.dn<=b.b.2.2
 ·rw [if_pos c,if_pos c,show ((9:Int) != 0)=true from rfl,aq]
  exact KB0
 ·rw [if_neg c,if_neg c]
  have hcj:okS (cjB b.b)=true:=fM.2 ⟨h.1,by show -67108864<=0 - b.b.2.1/\0 - b.b.2.1<=67108864;omega,h.2.2⟩
  obtain⟨t1,t2,t3,t4,_⟩:=agV (a:=a.b) (b:=cjB b.b) a.ok hcj
  have p1:w64 (0 - b.b.2.1)=(cjB b.b).2.1:=ak (by omega) (by omega)
  simp only [EB,af,NA,p1,uO,af,DU,ja,af,sK]
  have q1:w64 (w64 (a.b.1*b.b.1) - w64 (a.b.2.1*(cjB b.b).2.1))=tmP a.b (cjB b.b):=by
   have e:a.b.1*b.b.1=a.b.1*(cjB b.b).1:=rfl
   rw [e,ak (n:=a.b.1*(cjB b.b).1) (by omega) (by omega),ak (n:=a.b.2.1*(cjB b.b).2.1) (by omega) (by omega),ak (by omega) (by omega)]
   rfl
  have q2:w64 (w64 (a.b.1*(cjB b.b).2.1)+w64 (a.b.2.1*b.b.1))=tmQ a.b (cjB b.b):=by
   have e:a.b.2.1*b.b.1=a.b.2.1*(cjB b.b).1:=rfl
   rw [e,ak (n:=a.b.1*(cjB b.b).2.1) (by omega) (by omega),ak (n:=a.b.2.1*(cjB b.b).1) (by omega) (by omega),ak (by omega) (by omega)]
   rfl
  have sq1:=lW h.1.1 h.1.2
  have sq2:=lW h.2.1.1 h.2.1.2
  have q3:w64 (w64 (b.b.1*b.b.1)+w64 (b.b.2.1*b.b.2.1))=(sqn b.b:Int):=by
   rw [ak (n:=b.b.1*b.b.1) (by omega) (by omega),ak (n:=b.b.2.1*b.b.2.1) (by omega) (by omega),ak (by omega) (by omega),s1]
  have hp:-9007199254740992<=tmP a.b (cjB b.b)/\tmP a.b (cjB b.b)<=9007199254740992:=by unfold tmP;omega
  have hq:-9007199254740992<=tmQ a.b (cjB b.b)/\tmQ a.b (cjB b.b)<=9007199254740992:=by unfold tmQ;omega
  have hpos:0 < (sqn b.b:Int):=by
   have e1:(isq (sqn b.b):Int)=b.dn:=rfl
   have e2:=I1 (n:=sqn b.b) (by omega)
   have e3:1<=isq (sqn b.b):=by omega
   have e4:1*1<=isq (sqn b.b)*isq (sqn b.b):=Nat.mul_le_mul e3 e3
   omega
  rw [q1,q2,q3]
  rw [xg (by omega) (by omega) hpos (by omega),xg (by omega) (by omega) hpos (by omega),rx b.ok,rx a.ok]
  have m1:=jq (x:=a.b.2.2) (y:=b.up) (by omega) g.2.2.2 u.1 u.2
  have m2:=jq (x:=a.up) (y:=b.b.2.2) v.1 v.2 h.2.2.1 h.2.2.2
  have m3:=jq (x:=b.dn - b.b.2.2) (y:=b.dn) (A:=94906265) (B:=94906265) (by omega) (by omega) (by omega) (by omega)
  have m3':0 < (b.dn - b.b.2.2)*b.dn:=Int.mul_pos (by omega) (by omega)
  have r1:w64 (w64 (a.r*upc b.b)+w64 (upc a.b*b.r))=a.b.2.2*b.up+a.up*b.b.2.2:=by
   show w64 (w64 (a.b.2.2*b.up)+w64 (a.up*b.b.2.2))=_
   rw [ak (n:=a.b.2.2*b.up) (by omega) (by omega),ak (n:=a.up*b.b.2.2) (by omega) (by omega),ak (by omega) (by omega)]
  have r2:w64 (w64 (b.dn - b.r)*b.dn)=(b.dn - b.b.2.2)*b.dn:=by
   show w64 (w64 (b.dn - b.b.2.2)*b.dn)=_
   rw [ak (n:=b.dn - b.b.2.2) (by omega) (by omega),ak (by omega) (by omega)]
  rw [r1,r2,afG (by omega) (by omega) m3' (by omega)]
  unfold ajr
  generalize dC (tmP a.b (cjB b.b)) (sqn b.b)=X
  generalize dC (tmQ a.b (cjB b.b)) (sqn b.b)=Y
  generalize zw (a.b.2.2*b.up+a.up*b.b.2.2) ((b.dn - b.b.2.2)*b.dn)=Z
  simp only [aku]
  cases hX:X.2 with
  | true=>rw [aq,jU];rfl
  | false=>rw [ap,jU];rfl
end Go.AM.K
