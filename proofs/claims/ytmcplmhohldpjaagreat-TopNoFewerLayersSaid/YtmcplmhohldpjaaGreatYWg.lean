/- Stacks: matrices, amplitudes, right asks, shares. -/
import Derived.Test.YtmcplmhohldpjaaGreatYWf
namespace Go.AM.K
set_option linter.unusedVariables false
set_option linter.unusedSimpArgs false
variable {α:Type}
def iD (e:Int)(y g:Bl):Mt × Int:=
 bnd (wc e 1 2) fun h e1=>bnd (two dY e1 Bl1 g) fun a e2=>bnd (two be e2 a h) fun u e3=>
 bnd (two gG e3 Bl1 g) fun b e4=>bnd (two be e4 b h) fun c e5=>bnd (two mG e5 c y) fun v e6=>bnd (two be e6 c y) fun w e7=>((u,v,w,u),e7)
theorem ae1 (e:Int)(y g:Bl){k:Nat->Nat->Int->Nat->Nat->Int->Nat->Nat->Int->Nat->Nat->Int->Int->Option α} :
  uG α e y.n1 y.n2 y.r g.n1 g.n2 g.r k=u6 (iD e y g) fun m e=>k m.1.n1 m.1.n2 m.1.r m.2.1.n1 m.2.1.n2 m.2.1.r m.2.2.1.n1 m.2.2.1.n2 m.2.2.1.r m.2.2.2.n1 m.2.2.2.n2 m.2.2.2.r e:=by
 rw [pp]
 show _=KMt k (iD e y g)
 unfold iD
 simp only [uG,af,OB,lR,af,FY,MV,afa,af7,nj,IR,gu (KMt k),ahW]
def pE (e:Int)(p m:Mt):Mt × Int:=
 bnd (two be e p.1 m.1) fun a1 e1=>bnd (two be e1 p.2.1 m.2.2.1) fun a2 e2=>bnd (two dY e2 a1 a2) fun a e3=>
 bnd (two be e3 p.1 m.2.1) fun b1 e4=>bnd (two be e4 p.2.1 m.2.2.2) fun b2 e5=>bnd (two dY e5 b1 b2) fun b e6=>
 bnd (two be e6 p.2.2.1 m.1) fun c1 e7=>bnd (two be e7 p.2.2.2 m.2.2.1) fun c2 e8=>bnd (two dY e8 c1 c2) fun c e9=>
 bnd (two be e9 p.2.2.1 m.2.1) fun d1 e10=>bnd (two be e10 p.2.2.2 m.2.2.2) fun d2 e11=>bnd (two dY e11 d1 d2) fun d e12=>((a,b,c,d),e12)
theorem afg (e:Int)(p m:Mt){k:Nat->Nat->Int->Nat->Nat->Int->Nat->Nat->Int->Nat->Nat->Int->Int->Option α} :
  u9 α e p.1.n1 p.1.n2 p.1.r p.2.1.n1 p.2.1.n2 p.2.1.r p.2.2.1.n1 p.2.2.1.n2 p.2.2.1.r p.2.2.2.n1 p.2.2.2.n2 p.2.2.2.r
   m.1.n1 m.1.n2 m.1.r m.2.1.n1 m.2.1.n2 m.2.1.r m.2.2.1.n1 m.2.2.1.n2 m.2.2.1.r m.2.2.2.n1 m.2.2.2.n2 m.2.2.2.r k=
   u6 (pE e p m) fun m e=>k m.1.n1 m.1.n2 m.1.r m.2.1.n1 m.2.1.n2 m.2.1.r m.2.2.1.n1 m.2.2.1.n2 m.2.2.1.r m.2.2.2.n1 m.2.2.2.n2 m.2.2.2.r e:=by
 rw [pp]
 show _=KMt k (pE e p m)
 unfold pE
 simp only [u9,af,KD,nj,Eh,gu (KMt k),ahW]
def qV (A:Ask)(fs:Bool):List L5->Nat->Mt->Bl->Int->(Mt × Bl) × Int
 | [],_,p,a,e=>((p,a),e)
 | l::ls,n,p,a,e=>if e=0 then
   bnd (kx A n e) fun y e1=>bnd (fS A l n 2 e1) fun g e2=>
   if fs=true then
    bnd (fS A l n 1 e2) fun h e3=>bnd (two be e3 a h) fun b e4=>u6 (iD e4 y g) fun m e5=>u6 (pE e5 p m) fun q e6=>qV A fs ls (n+1) q b e6
   else u6 (iD e2 y g) fun m e3=>u6 (pE e3 p m) fun q e4=>qV A fs ls (n+1) q a e4
  else ((p,a),e)
theorem vf (A:Ask)(fs:Bool)(l:L5)(ls:List L5)(n:Nat)(p:Mt)(a:Bl)(e:Int):qV A fs (l::ls) n p a e=if e=0 then
   bnd (kx A n e) fun y e1=>bnd (fS A l n 2 e1) fun g e2=>
   if fs=true then
    bnd (fS A l n 1 e2) fun h e3=>bnd (two be e3 a h) fun b e4=>u6 (iD e4 y g) fun m e5=>u6 (pE e5 p m) fun q e6=>qV A fs ls (n+1) q b e6
   else u6 (iD e2 y g) fun m e3=>u6 (pE e3 p m) fun q e4=>qV A fs ls (n+1) q a e4
  else ((p,a),e):=rfl
def KTh (k:Nat->Nat->Int->Nat->Nat->Int->Nat->Nat->Int->Nat->Nat->Int->Nat->Nat->Int->Int->Option α)(u:(Mt × Bl) × Int):Option α:=
 k u.1.1.1.n1 u.1.1.1.n2 u.1.1.1.r u.1.1.2.1.n1 u.1.1.2.1.n2 u.1.1.2.1.r u.1.1.2.2.1.n1 u.1.1.2.2.1.n2 u.1.1.2.2.1.r u.1.1.2.2.2.n1 u.1.1.2.2.2.n2 u.1.1.2.2.2.r u.1.2.n1 u.1.2.n2 u.1.2.r u.2
theorem ap0 {k:Nat->Nat->Int->Nat->Nat->Int->Nat->Nat->Int->Nat->Nat->Int->Nat->Nat->Int->Int->Option α}{m:Mt}{a:Bl}{e:Int} :
  KTh k ((m,a),e)=k m.1.n1 m.1.n2 m.1.r m.2.1.n1 m.2.1.n2 m.2.1.r m.2.2.1.n1 m.2.2.1.n2 m.2.2.1.r m.2.2.2.n1 m.2.2.2.n2 m.2.2.2.r a.n1 a.n2 a.r e:=rfl
theorem akb {A:Ask}{fs:Bool}(hA:A.ls.length<=40)(h1:A.w1 ≠ 0)(h2:A.w2 ≠ 0)
  {K:Nat->Nat->Int->Nat->Nat->Int->Nat->Nat->Int->Nat->Nat->Int->Nat->Nat->Int->Int->Option α}
  {k1:Int->Bool->Int->Nat->Nat->Int->Nat->Nat->Int->Nat->Nat->Int->Nat->Nat->Int->Nat->Nat->Int->Option α}
  (hk:∀ x b (m:Mt) (a:Bl) e,k1 x b e m.1.n1 m.1.n2 m.1.r m.2.1.n1 m.2.1.n2 m.2.1.r m.2.2.1.n1 m.2.2.1.n2 m.2.2.1.r m.2.2.2.n1 m.2.2.2.n2 m.2.2.2.r a.n1 a.n2 a.r=KTh K ((m,a),e)) :
  ∀ (rest:List L5) (i n:Nat) (m:Mt) (a:Bl) (e:Int),A.ls.drop i=rest->i<=A.ls.length->rest.length < n ->
  oz α fs A.ix A.s1 A.s2 A.pol A.w1 A.w2 (A.ls.map rL) A.oi A.ol k1 n ((i+1:Nat):Int) e m.1.n1 m.1.n2 m.1.r m.2.1.n1 m.2.1.n2 m.2.1.r m.2.2.1.n1 m.2.2.1.n2 m.2.2.1.r m.2.2.2.n1 m.2.2.2.n2 m.2.2.2.r a.n1 a.n2 a.r=
   KTh K (qV A fs rest (i+1) m a e):=by
 intro rest
 induction rest with
 | nil=>
  intro i n m a e hd hi hn
  obtain⟨n,rfl⟩:∃ n',n=n'+1:=⟨n - 1,by simp only [List.length_nil] at hn;omega⟩
  have hl:A.ls.length<=i:=List.drop_eq_nil_iff.1 hd
  simp only [oz,rT,List.length_map]
  rw [decide_eq_false (by omega),ap,hk]
  rfl
 | cons l ls ih=>
  intro i n m a e hd hi hn
  obtain⟨n,rfl⟩:∃ n',n=n'+1:=⟨n - 1,by omega⟩
  have hl:i < A.ls.length:=by
   by_cases h:i < A.ls.length
   ·exact h
   ·rw [List.drop_eq_nil_of_le (by omega)] at hd;cases hd
  have hg:A.ls[i]?=some l:=by
   have:=congrArg List.head? hd
   rw [List.head?_drop] at this
   exact this
  have hd':A.ls.drop (i+1)=ls:=by
   have:=congrArg List.tail hd
   rw [List.tail_drop] at this
   exact this
  have hw:w64 (((i+1:Nat):Int)+1)=((i+1+1:Nat):Int):=by rw [ak (by omega) (by omega)];omega
  have hi1:i+1 < 1000000:=by omega
  have hi2:i < 100000:=by omega
  have hn':ls.length < n:=by simp only [List.length_cons] at hn;omega
  have ih':∀ (m:Mt) (a:Bl) (e:Int),_:=fun m a e=>ih (i+1) n m a e hd' (by omega) hn'
  simp only [oz,rT,List.length_map]
  rw [decide_eq_true (by omega),aq]
  simp only [sL,af,GN,Bd A hi1,afT A hg hi2 h1 h2,nj,ae1,afg,hw,ih',hk]
  rw [vf]
  simp only [nq,apply_ite (KTh K),gu (KTh K),Rm (KTh K),ap0]
  simp only [Vy]
def jy (A:Ask)(fs:Bool)(e:Int):(Mt × Bl) × Int:=qV A fs A.ls 1 (Bl1,Bl0,Bl0,Bl1) Bl1 e
theorem alH (A:Ask)(fs:Bool)(hA:A.ls.length<=40)(h1:A.w1 ≠ 0)(h2:A.w2 ≠ 0)(e:Int)
  {k:Nat->Nat->Int->Nat->Nat->Int->Nat->Nat->Int->Nat->Nat->Int->Nat->Nat->Int->Int->Option α} :
  G8 α e A.ix A.s1 A.s2 A.pol A.w1 A.w2 (A.ls.map rL) A.oi A.ol fs k=Zp (jy A fs e) fun m a e=>
   k m.1.n1 m.1.n2 m.1.r m.2.1.n1 m.2.1.n2 m.2.1.r m.2.2.1.n1 m.2.2.1.n2 m.2.2.1.r m.2.2.2.n1 m.2.2.2.n2 m.2.2.2.r a.n1 a.n2 a.r e:=by
 rw [MH]
 show _=KTh k (jy A fs e)
 have hf:A.ls.length < aN:=by have:=cB;omega
 have:=akb (α:=α) (A:=A) (fs:=fs) hA h1 h2 (K:=k) (k1:=fun _ _ e a b c d e' f g h i j l m n o p=>k a b c d e' f g h i j l m n o p e) (fun _ _ _ _ _=>rfl) A.ls 0 aN (Bl1,Bl0,Bl0,Bl1) Bl1 e rfl (Nat.zero_le _) hf
 simp only [J9,J3,V2,yY,AQ,Gk] at this
 simp only [G8,af,Zu,lR,af,FY,yJ,af,O5,xA,af,GU]
 exact this
end Go.AM.K
