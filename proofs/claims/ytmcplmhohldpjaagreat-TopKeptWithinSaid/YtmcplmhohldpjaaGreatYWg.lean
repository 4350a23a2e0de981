/- Stacks: matrices, amplitudes, right asks, shares. -/
import Derived.Test.YtmcplmhohldpjaaGreatYWf
namespace Go.AM.K
set_option linter.unusedVariables false
set_option linter.unusedSimpArgs false
variable {α:Type}
def matE (e:Int)(y g:Bl):Mt × Int:=
 bnd (fracS e 1 2) fun h e1=>bnd (two plusE e1 Bl1 g) fun a e2=>bnd (two timesE e2 a h) fun u e3=>
 bnd (two minusE e3 Bl1 g) fun b e4=>bnd (two timesE e4 b h) fun c e5=>bnd (two quoE e5 c y) fun v e6=>bnd (two timesE e6 c y) fun w e7=>((u,v,w,u),e7)
theorem f127_bn (e:Int)(y g:Bl){k:Nat->Nat->Int->Nat->Nat->Int->Nat->Nat->Int->Nat->Nat->Int->Int->Option α} :
  f127_0 α e y.n1 y.n2 y.r g.n1 g.n2 g.r k=bndM (matE e y g) fun m e=>k m.1.n1 m.1.n2 m.1.r m.2.1.n1 m.2.1.n2 m.2.1.r m.2.2.1.n1 m.2.2.1.n2 m.2.2.1.r m.2.2.2.n1 m.2.2.2.n2 m.2.2.2.r e:=by
 rw [bndM_eq]
 show _=KMt k (matE e y g)
 unfold matE
 simp only [f127_0,sld_eq,f127_0g,f123_0,sld_eq,f123_0g,f134_bl,f75_one,f78_one,f76_bl,f77_bl,bnd_push (KMt k),KMt_p]
def mulE (e:Int)(p m:Mt):Mt × Int:=
 bnd (two timesE e p.1 m.1) fun a1 e1=>bnd (two timesE e1 p.2.1 m.2.2.1) fun a2 e2=>bnd (two plusE e2 a1 a2) fun a e3=>
 bnd (two timesE e3 p.1 m.2.1) fun b1 e4=>bnd (two timesE e4 p.2.1 m.2.2.2) fun b2 e5=>bnd (two plusE e5 b1 b2) fun b e6=>
 bnd (two timesE e6 p.2.2.1 m.1) fun c1 e7=>bnd (two timesE e7 p.2.2.2 m.2.2.1) fun c2 e8=>bnd (two plusE e8 c1 c2) fun c e9=>
 bnd (two timesE e9 p.2.2.1 m.2.1) fun d1 e10=>bnd (two timesE e10 p.2.2.2 m.2.2.2) fun d2 e11=>bnd (two plusE e11 d1 d2) fun d e12=>((a,b,c,d),e12)
theorem f126_bn (e:Int)(p m:Mt){k:Nat->Nat->Int->Nat->Nat->Int->Nat->Nat->Int->Nat->Nat->Int->Int->Option α} :
  f126_0 α e p.1.n1 p.1.n2 p.1.r p.2.1.n1 p.2.1.n2 p.2.1.r p.2.2.1.n1 p.2.2.1.n2 p.2.2.1.r p.2.2.2.n1 p.2.2.2.n2 p.2.2.2.r
   m.1.n1 m.1.n2 m.1.r m.2.1.n1 m.2.1.n2 m.2.1.r m.2.2.1.n1 m.2.2.1.n2 m.2.2.1.r m.2.2.2.n1 m.2.2.2.n2 m.2.2.2.r k=
   bndM (mulE e p m) fun m e=>k m.1.n1 m.1.n2 m.1.r m.2.1.n1 m.2.1.n2 m.2.1.r m.2.2.1.n1 m.2.2.1.n2 m.2.2.1.r m.2.2.2.n1 m.2.2.2.n2 m.2.2.2.r e:=by
 rw [bndM_eq]
 show _=KMt k (mulE e p m)
 unfold mulE
 simp only [f126_0,sld_eq,f126_0g,f76_bl,f75_bl,bnd_push (KMt k),KMt_p]
def thrE (A:Ask)(fs:Bool):List L5->Nat->Mt->Bl->Int->(Mt × Bl) × Int
 | [],_,p,a,e=>((p,a),e)
 | l::ls,n,p,a,e=>if e=0 then
   bnd (admE A n e) fun y e1=>bnd (factorE A l n 2 e1) fun g e2=>
   if fs=true then
    bnd (factorE A l n 1 e2) fun h e3=>bnd (two timesE e3 a h) fun b e4=>bndM (matE e4 y g) fun m e5=>bndM (mulE e5 p m) fun q e6=>thrE A fs ls (n+1) q b e6
   else bndM (matE e2 y g) fun m e3=>bndM (mulE e3 p m) fun q e4=>thrE A fs ls (n+1) q a e4
  else ((p,a),e)
theorem thrE_cons (A:Ask)(fs:Bool)(l:L5)(ls:List L5)(n:Nat)(p:Mt)(a:Bl)(e:Int):thrE A fs (l::ls) n p a e=if e=0 then
   bnd (admE A n e) fun y e1=>bnd (factorE A l n 2 e1) fun g e2=>
   if fs=true then
    bnd (factorE A l n 1 e2) fun h e3=>bnd (two timesE e3 a h) fun b e4=>bndM (matE e4 y g) fun m e5=>bndM (mulE e5 p m) fun q e6=>thrE A fs ls (n+1) q b e6
   else bndM (matE e2 y g) fun m e3=>bndM (mulE e3 p m) fun q e4=>thrE A fs ls (n+1) q a e4
  else ((p,a),e):=rfl
def KTh (k:Nat->Nat->Int->Nat->Nat->Int->Nat->Nat->Int->Nat->Nat->Int->Nat->Nat->Int->Int->Option α)(u:(Mt × Bl) × Int):Option α:=
 k u.1.1.1.n1 u.1.1.1.n2 u.1.1.1.r u.1.1.2.1.n1 u.1.1.2.1.n2 u.1.1.2.1.r u.1.1.2.2.1.n1 u.1.1.2.2.1.n2 u.1.1.2.2.1.r u.1.1.2.2.2.n1 u.1.1.2.2.2.n2 u.1.1.2.2.2.r u.1.2.n1 u.1.2.n2 u.1.2.r u.2
theorem KTh_p {k:Nat->Nat->Int->Nat->Nat->Int->Nat->Nat->Int->Nat->Nat->Int->Nat->Nat->Int->Int->Option α}{m:Mt}{a:Bl}{e:Int} :
  KTh k ((m,a),e)=k m.1.n1 m.1.n2 m.1.r m.2.1.n1 m.2.1.n2 m.2.1.r m.2.2.1.n1 m.2.2.1.n2 m.2.2.1.r m.2.2.2.n1 m.2.2.2.n2 m.2.2.2.r a.n1 a.n2 a.r e:=rfl
theorem R74_go {A:Ask}{fs:Bool}(hA:A.ls.length<=40)(h1:A.w1 ≠ 0)(h2:A.w2 ≠ 0)
  {K:Nat->Nat->Int->Nat->Nat->Int->Nat->Nat->Int->Nat->Nat->Int->Nat->Nat->Int->Int->Option α}
  {k1:Int->Bool->Int->Nat->Nat->Int->Nat->Nat->Int->Nat->Nat->Int->Nat->Nat->Int->Nat->Nat->Int->Option α}
  (hk:∀ x b (m:Mt) (a:Bl) e,k1 x b e m.1.n1 m.1.n2 m.1.r m.2.1.n1 m.2.1.n2 m.2.1.r m.2.2.1.n1 m.2.2.1.n2 m.2.2.1.r m.2.2.2.n1 m.2.2.2.n2 m.2.2.2.r a.n1 a.n2 a.r=KTh K ((m,a),e)) :
  ∀ (rest:List L5) (i n:Nat) (m:Mt) (a:Bl) (e:Int),A.ls.drop i=rest->i<=A.ls.length->rest.length < n ->
  R74_0_1 α fs A.ix A.s1 A.s2 A.pol A.w1 A.w2 (A.ls.map rL) A.oi A.ol k1 n ((i+1:Nat):Int) e m.1.n1 m.1.n2 m.1.r m.2.1.n1 m.2.1.n2 m.2.1.r m.2.2.1.n1 m.2.2.1.n2 m.2.2.1.r m.2.2.2.n1 m.2.2.2.n2 m.2.2.2.r a.n1 a.n2 a.r=
   KTh K (thrE A fs rest (i+1) m a e):=by
 intro rest
 induction rest with
 | nil=>
  intro i n m a e hd hi hn
  obtain⟨n,rfl⟩:∃ n',n=n'+1:=⟨n - 1,by simp only [List.length_nil] at hn;omega⟩
  have hl:A.ls.length<=i:=List.drop_eq_nil_iff.1 hd
  simp only [R74_0_1,S74_0_1,List.length_map]
  rw [decide_eq_false (by omega),cK_false,hk]
  rfl
 | cons l ls ih=>
  intro i n m a e hd hi hn
  obtain⟨n,rfl⟩:∃ n',n=n'+1:=⟨n - 1,by omega⟩
  have hl:i < A.ls.length:=by
   by_cases h:i < A.ls.length
   ·exact h
   ·rw [List.drop_eq_nil_of_le (by omega)] at hd;cases hd
  have hg:A.ls[i]?=some l:=by
   have:=congrArg List.head? hd
   rw [List.head?_drop] at this
   exact this
  have hd':A.ls.drop (i+1)=ls:=by
   have:=congrArg List.tail hd
   rw [List.tail_drop] at this
   exact this
  have hw:w64 (((i+1:Nat):Int)+1)=((i+1+1:Nat):Int):=by rw [w64_in (by omega) (by omega)];omega
  have hi1:i+1 < 1000000:=by omega
  have hi2:i < 100000:=by omega
  have hn':ls.length < n:=by simp only [List.length_cons] at hn;omega
  have ih':∀ (m:Mt) (a:Bl) (e:Int),_:=fun m a e=>ih (i+1) n m a e hd' (by omega) hn'
  simp only [R74_0_1,S74_0_1,List.length_map]
  rw [decide_eq_true (by omega),cK_true]
  simp only [J74_0_0,sld_eq,J74_0_0g,f34_bn A hi1,f125_bn A hg hi2 h1 h2,f76_bl,f127_bn,f126_bn,hw,ih',hk]
  rw [thrE_cons]
  simp only [cK_beq,apply_ite (KTh K),bnd_push (KTh K),bndM_push (KTh K),KTh_p]
  simp only [cK_b]
def throughE (A:Ask)(fs:Bool)(e:Int):(Mt × Bl) × Int:=thrE A fs A.ls 1 (Bl1,Bl0,Bl0,Bl1) Bl1 e
theorem f74_bn (A:Ask)(fs:Bool)(hA:A.ls.length<=40)(h1:A.w1 ≠ 0)(h2:A.w2 ≠ 0)(e:Int)
  {k:Nat->Nat->Int->Nat->Nat->Int->Nat->Nat->Int->Nat->Nat->Int->Nat->Nat->Int->Int->Option α} :
  f74_0 α e A.ix A.s1 A.s2 A.pol A.w1 A.w2 (A.ls.map rL) A.oi A.ol fs k=bndT (throughE A fs e) fun m a e=>
   k m.1.n1 m.1.n2 m.1.r m.2.1.n1 m.2.1.n2 m.2.1.r m.2.2.1.n1 m.2.2.1.n2 m.2.2.1.r m.2.2.2.n1 m.2.2.2.n2 m.2.2.2.r a.n1 a.n2 a.r e:=by
 rw [bndT_eq]
 show _=KTh k (throughE A fs e)
 have hf:A.ls.length < fuel:=by have:=fuel_ge;omega
 have:=R74_go (α:=α) (A:=A) (fs:=fs) hA h1 h2 (K:=k) (k1:=fun _ _ e a b c d e' f g h i j l m n o p=>k a b c d e' f g h i j l m n o p e) (fun _ _ _ _ _=>rfl) A.ls 0 fuel (Bl1,Bl0,Bl0,Bl1) Bl1 e rfl (Nat.zero_le _) hf
 simp only [Bl1_n1,Bl1_n2,Bl1_r,Bl0_n1,Bl0_n2,Bl0_r] at this
 simp only [f74_0,sld_eq,f74_0g,f123_0,sld_eq,f123_0g,f124_0,sld_eq,f124_0g,L74_0_1,sld_eq,L74_0_1g]
 exact this
end Go.AM.K
