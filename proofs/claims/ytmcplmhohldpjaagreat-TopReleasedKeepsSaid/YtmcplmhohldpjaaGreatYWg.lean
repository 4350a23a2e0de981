/- Stacks: matrices, amplitudes, right asks, shares. -/
import Derived.Test.YtmcplmhohldpjaaGreatYWf
namespace Go.AM.K
set_option linter.unusedVariables false
set_option linter.unusedSimpArgs false
variable {α:Type}
def iR (e:Int)(y g:Bl):Mt × Int:=
 bnd (xh e 1 2) fun h e1=>bnd (two ej e1 Bl1 g) fun a e2=>bnd (two bc e2 a h) fun u e3=>
 bnd (two gV e3 Bl1 g) fun b e4=>bnd (two bc e4 b h) fun c e5=>bnd (two nu e5 c y) fun v e6=>bnd (two bc e6 c y) fun w e7=>((u,v,w,u),e7)
theorem afJ (e:Int)(y g:Bl){k:Nat->Nat->Int->Nat->Nat->Int->Nat->Nat->Int->Nat->Nat->Int->Int->Option α} :
  vu α e y.n1 y.n2 y.r g.n1 g.n2 g.r k=wB (iR e y g) fun m e=>k m.1.n1 m.1.n2 m.1.r m.2.1.n1 m.2.1.n2 m.2.1.r m.2.2.1.n1 m.2.2.1.n2 m.2.2.1.r m.2.2.2.n1 m.2.2.2.n2 m.2.2.2.r e:=by
 rw [pC]
 show _=KMt k (iR e y g)
 unfold iR
 simp only [vu,af,PM,mr,af,EZ,MI,afP,adU,oM,Kq,gG (KMt k),ahv]
def qs (e:Int)(p m:Mt):Mt × Int:=
 bnd (two bc e p.1 m.1) fun a1 e1=>bnd (two bc e1 p.2.1 m.2.2.1) fun a2 e2=>bnd (two ej e2 a1 a2) fun a e3=>
 bnd (two bc e3 p.1 m.2.1) fun b1 e4=>bnd (two bc e4 p.2.1 m.2.2.2) fun b2 e5=>bnd (two ej e5 b1 b2) fun b e6=>
 bnd (two bc e6 p.2.2.1 m.1) fun c1 e7=>bnd (two bc e7 p.2.2.2 m.2.2.1) fun c2 e8=>bnd (two ej e8 c1 c2) fun c e9=>
 bnd (two bc e9 p.2.2.1 m.2.1) fun d1 e10=>bnd (two bc e10 p.2.2.2 m.2.2.2) fun d2 e11=>bnd (two ej e11 d1 d2) fun d e12=>((a,b,c,d),e12)
theorem afx (e:Int)(p m:Mt){k:Nat->Nat->Int->Nat->Nat->Int->Nat->Nat->Int->Nat->Nat->Int->Int->Option α} :
  v5 α e p.1.n1 p.1.n2 p.1.r p.2.1.n1 p.2.1.n2 p.2.1.r p.2.2.1.n1 p.2.2.1.n2 p.2.2.1.r p.2.2.2.n1 p.2.2.2.n2 p.2.2.2.r
   m.1.n1 m.1.n2 m.1.r m.2.1.n1 m.2.1.n2 m.2.1.r m.2.2.1.n1 m.2.2.1.n2 m.2.2.1.r m.2.2.2.n1 m.2.2.2.n2 m.2.2.2.r k=
   wB (qs e p m) fun m e=>k m.1.n1 m.1.n2 m.1.r m.2.1.n1 m.2.1.n2 m.2.1.r m.2.2.1.n1 m.2.2.1.n2 m.2.2.1.r m.2.2.2.n1 m.2.2.2.n2 m.2.2.2.r e:=by
 rw [pC]
 show _=KMt k (qs e p m)
 unfold qs
 simp only [v5,af,Pp,oM,FN,gG (KMt k),ahv]
def ug (A:Ask)(fs:Bool):List L5->Nat->Mt->Bl->Int->(Mt × Bl) × Int
 | [],_,p,a,e=>((p,a),e)
 | l::ls,n,p,a,e=>if e=0 then
   bnd (kY A n e) fun y e1=>bnd (fR A l n 2 e1) fun g e2=>
   if fs=true then
    bnd (fR A l n 1 e2) fun h e3=>bnd (two bc e3 a h) fun b e4=>wB (iR e4 y g) fun m e5=>wB (qs e5 p m) fun q e6=>ug A fs ls (n+1) q b e6
   else wB (iR e2 y g) fun m e3=>wB (qs e3 p m) fun q e4=>ug A fs ls (n+1) q a e4
  else ((p,a),e)
theorem vo (A:Ask)(fs:Bool)(l:L5)(ls:List L5)(n:Nat)(p:Mt)(a:Bl)(e:Int):ug A fs (l::ls) n p a e=if e=0 then
   bnd (kY A n e) fun y e1=>bnd (fR A l n 2 e1) fun g e2=>
   if fs=true then
    bnd (fR A l n 1 e2) fun h e3=>bnd (two bc e3 a h) fun b e4=>wB (iR e4 y g) fun m e5=>wB (qs e5 p m) fun q e6=>ug A fs ls (n+1) q b e6
   else wB (iR e2 y g) fun m e3=>wB (qs e3 p m) fun q e4=>ug A fs ls (n+1) q a e4
  else ((p,a),e):=rfl
def KTh (k:Nat->Nat->Int->Nat->Nat->Int->Nat->Nat->Int->Nat->Nat->Int->Nat->Nat->Int->Int->Option α)(u:(Mt × Bl) × Int):Option α:=
 k u.1.1.1.n1 u.1.1.1.n2 u.1.1.1.r u.1.1.2.1.n1 u.1.1.2.1.n2 u.1.1.2.1.r u.1.1.2.2.1.n1 u.1.1.2.2.1.n2 u.1.1.2.2.1.r u.1.1.2.2.2.n1 u.1.1.2.2.2.n2 u.1.1.2.2.2.r u.1.2.n1 u.1.2.n2 u.1.2.r u.2
theorem apJ {k:Nat->Nat->Int->Nat->Nat->Int->Nat->Nat->Int->Nat->Nat->Int->Nat->Nat->Int->Int->Option α}{m:Mt}{a:Bl}{e:Int} :
  KTh k ((m,a),e)=k m.1.n1 m.1.n2 m.1.r m.2.1.n1 m.2.1.n2 m.2.1.r m.2.2.1.n1 m.2.2.1.n2 m.2.2.1.r m.2.2.2.n1 m.2.2.2.n2 m.2.2.2.r a.n1 a.n2 a.r e:=rfl
theorem aj7 {A:Ask}{fs:Bool}(hA:A.ls.length<=40)(h1:A.w1 ≠ 0)(h2:A.w2 ≠ 0)
  {K:Nat->Nat->Int->Nat->Nat->Int->Nat->Nat->Int->Nat->Nat->Int->Nat->Nat->Int->Int->Option α}
  {k1:Int->Bool->Int->Nat->Nat->Int->Nat->Nat->Int->Nat->Nat->Int->Nat->Nat->Int->Nat->Nat->Int->Option α}
  (hk:∀ x b (m:Mt) (a:Bl) e,k1 x b e m.1.n1 m.1.n2 m.1.r m.2.1.n1 m.2.1.n2 m.2.1.r m.2.2.1.n1 m.2.2.1.n2 m.2.2.1.r m.2.2.2.n1 m.2.2.2.n2 m.2.2.2.r a.n1 a.n2 a.r=KTh K ((m,a),e)) :
  ∀ (rest:List L5) (i n:Nat) (m:Mt) (a:Bl) (e:Int),A.ls.drop i=rest->i<=A.ls.length->rest.length < n ->
  oY α fs A.ix A.s1 A.s2 A.pol A.w1 A.w2 (A.ls.map rL) A.oi A.ol k1 n ((i+1:Nat):Int) e m.1.n1 m.1.n2 m.1.r m.2.1.n1 m.2.1.n2 m.2.1.r m.2.2.1.n1 m.2.2.1.n2 m.2.2.1.r m.2.2.2.n1 m.2.2.2.n2 m.2.2.2.r a.n1 a.n2 a.r=
   KTh K (ug A fs rest (i+1) m a e):=by
 intro rest
 induction rest with
 | nil=>
  intro i n m a e hd hi hn
  obtain⟨n,rfl⟩:∃ n',n=n'+1:=⟨n - 1,by simp only [List.length_nil] at hn;omega⟩
  have hl:A.ls.length<=i:=List.drop_eq_nil_iff.1 hd
  simp only [oY,tU,List.length_map]
  rw [decide_eq_false (by omega),am,hk]
  rfl
 | cons l ls ih=>
  intro i n m a e hd hi hn
  obtain⟨n,rfl⟩:∃ n',n=n'+1:=⟨n - 1,by omega⟩
  have hl:i < A.ls.length:=by
   by_cases h:i < A.ls.length
   ·exact h
   ·rw [List.drop_eq_nil_of_le (by omega)] at hd;cases hd
  have hg:A.ls[i]?=some l:=by
   have:=congrArg List.head? hd
   rw [List.head?_drop] at this
   exact this
  have hd':A.ls.drop (i+1)=ls:=by
   have:=congrArg List.tail hd
   rw [List.tail_drop] at this
   exact this
  have hw:w64 (((i+1:Nat):Int)+1)=((i+1+1:Nat):Int):=by rw [ak (by omega) (by omega)];omega
  have hi1:i+1 < 1000000:=by omega
  have hi2:i < 100000:=by omega
  have hn':ls.length < n:=by simp only [List.length_cons] at hn;omega
  have ih':∀ (m:Mt) (a:Bl) (e:Int),_:=fun m a e=>ih (i+1) n m a e hd' (by omega) hn'
  simp only [oY,tU,List.length_map]
  rw [decide_eq_true (by omega),aq]
  simp only [tC,af,Hl,zF A hi1,aeG A hg hi2 h1 h2,oM,afJ,afx,hw,ih',hk]
  rw [vo]
  simp only [va,apply_ite (KTh K),gG (KTh K),Tq (KTh K),apJ]
  simp only [aal]
def jB (A:Ask)(fs:Bool)(e:Int):(Mt × Bl) × Int:=ug A fs A.ls 1 (Bl1,Bl0,Bl0,Bl1) Bl1 e
theorem ako (A:Ask)(fs:Bool)(hA:A.ls.length<=40)(h1:A.w1 ≠ 0)(h2:A.w2 ≠ 0)(e:Int)
  {k:Nat->Nat->Int->Nat->Nat->Int->Nat->Nat->Int->Nat->Nat->Int->Nat->Nat->Int->Int->Option α} :
  HQ α e A.ix A.s1 A.s2 A.pol A.w1 A.w2 (A.ls.map rL) A.oi A.ol fs k=Yp (jB A fs e) fun m a e=>
   k m.1.n1 m.1.n2 m.1.r m.2.1.n1 m.2.1.n2 m.2.1.r m.2.2.1.n1 m.2.2.1.n2 m.2.2.1.r m.2.2.2.n1 m.2.2.2.n2 m.2.2.2.r a.n1 a.n2 a.r e:=by
 rw [LX]
 show _=KTh k (jB A fs e)
 have hf:A.ls.length < aN:=by have:=cS;omega
 have:=aj7 (α:=α) (A:=A) (fs:=fs) hA h1 h2 (K:=k) (k1:=fun _ _ e a b c d e' f g h i j l m n o p=>k a b c d e' f g h i j l m n o p e) (fun _ _ _ _ _=>rfl) A.ls 0 aN (Bl1,Bl0,Bl0,Bl1) Bl1 e rfl (Nat.zero_le _) hf
 simp only [Kc,JS,aaX,A1,z3,G6] at this
 simp only [HQ,af,Z3,mr,af,EZ,Aw,af,Rq,xN,af,HE]
 exact this
end Go.AM.K
