/- Stacks: amplitudes, right asks, shares. -/
import Derived.Test.YtmcplmhohldpjaaGreatYWg
namespace Go.AM.K
set_option linter.unusedVariables false
set_option linter.unusedSimpArgs false
variable {α:Type}
def wH (A:Ask)(tr:Bool)(e:Int):Bl × Int:=
 bnd (kx A 0 e) fun f e1=>Zp (jy A tr e1) fun p g e2=>bnd (kx A (A.ls.length+1) e2) fun l e3=>
 bnd (two be e3 p.2.1 l) fun t1 e4=>bnd (two dY e4 p.1 t1) fun b e5=>bnd (two be e5 p.2.2.2 l) fun t2 e6=>bnd (two dY e6 p.2.2.1 t2) fun c e7=>
 bnd (two be e7 f b) fun a e8=>bnd (two dY e8 a c) fun d e9=>
 if tr=true then bnd (two dY e9 f f) fun s e10=>bnd (two be e10 s g) fun z e11=>bnd (two mG e11 z d) fun v e12=>(v,e12)
 else bnd (two gG e9 a c) fun z e10=>bnd (two mG e10 z d) fun v e11=>(v,e11)
theorem alz (A:Ask)(tr:Bool)(hA:A.ls.length<=40)(h1:A.w1 ≠ 0)(h2:A.w2 ≠ 0)(e:Int){k:Nat->Nat->Int->Int->Option α} :
  Cy α e A.ix A.s1 A.s2 A.pol A.w1 A.w2 (A.ls.map rL) A.oi A.ol tr k=bnd (wH A tr e) fun u e=>k u.n1 u.n2 u.r e:=by
 rw [aL]
 show _=KB k (wH A tr e)
 have hw:w64 ((A.ls.length:Int)+1)=((A.ls.length+1:Nat):Int):=by rw [ak (by omega) (by omega)];omega
 have hl:A.ls.length+1 < 1000000:=by omega
 have h0:∀ (e:Int) (k:Nat->Nat->Int->Int->Option α),mH α e A.ix A.s1 A.s2 A.pol (A.ls.map rL) A.oi A.ol 0 k=bnd (kx A 0 e) fun u e=>k u.n1 u.n2 u.r e:=fun e k=>Bd A (n:=0) (by decide) e
 unfold wH
 simp only [Cy,af,aaU,List.length_map,hw,h0,Bd A hl,alH A tr hA h1 h2,nj,Eh,JY,IR,gu (KB k),Rb (KB k),apply_ite (KB k),abK]
 simp only [Vy]
def lsy (A:Ask):Nat->Nat->Bool
 | 0,_=>false
 | m+1,n=>if (iG A n).2.2=0 then lsy A m (n+1) else true
theorem ajm {A:Ask}(hA:A.ls.length<=40){k1 Y:Option α}{k2:Int->Bool->Option α}(hk:∀ x b,k2 x b=Y) :
  ∀ (m n f:Nat),n+m=A.ls.length+2->m < f->oK α ((A.ls.length+2:Nat):Int) A.ix (A.ls.map rL) A.oi A.ol k1 k2 f (n:Int)=if lsy A m n=true then k1 else Y:=by
 intro m
 induction m with
 | zero=>
  intro n f h hf
  obtain⟨f,rfl⟩:∃ f',f=f'+1:=⟨f - 1,by omega⟩
  rw [oK]
  simp only [sW]
  rw [decide_eq_false (by omega),ap,hk]
  rfl
 | succ m ih=>
  intro n f h hf
  obtain⟨f,rfl⟩:∃ f',f=f'+1:=⟨f - 1,by omega⟩
  rw [oK]
  simp only [sW]
  rw [decide_eq_true (by omega),aq,JF A (by omega),eE]
  have hw:w64 ((n:Int)+1)=((n+1:Nat):Int):=by rw [ak (by omega) (by omega)];omega
  rw [hw,ih (n+1) f (by omega) (by omega)]
  unfold lsy
  by_cases c:(iG A n).2.2=0
  ·rw [if_pos c,if_pos c]
   cases m <;> rfl
  ·rw [if_neg c,if_neg c,if_pos rfl]
def Qp (A:Ask):Bool:=lsy A (A.ls.length+2) 0
theorem akI (A:Ask)(hA:A.ls.length<=40){k:Bool->Option α}:v7 α A.ix (A.ls.map rL) A.oi A.ol k=if Qp A=true then k true else k false:=by
 have hw:w64 ((A.ls.length:Int)+2)=((A.ls.length+2:Nat):Int):=by rw [ak (by omega) (by omega)];omega
 have hf:A.ls.length+2 < aN:=by have:=cB;omega
 simp only [v7,af,US,List.length_map,hw,wP,af,Id]
 exact ajm hA (fun _ _=>rfl) (A.ls.length+2) 0 aN (by omega) hf
theorem xl {n lo hi:Int}{k:Bool->Option α}:ke α n lo hi k=k (decide (lo<=n/\n<=hi)):=by
 simp only [ke,af,Qy]
 by_cases h:lo<=n
 ·rw [decide_eq_true h,aq]
  by_cases h2:n<=hi
  ·rw [decide_eq_true h2,decide_eq_true ⟨h,h2⟩]
  ·rw [decide_eq_false h2,decide_eq_false (fun q=>h2 q.2)]
 ·rw [decide_eq_false h,ap,decide_eq_false (fun q=>h q.1)]
theorem ra {p:Prop}[Decidable p]{a b:Option α}:cK (!decide p) a b=if p then b else a:=by
 by_cases h:p
 ·rw [if_pos h,decide_eq_true h];rfl
 ·rw [if_neg h,decide_eq_false h];rfl
def ma (lo hi a b:Int):Int:=if (a<=lo/\lo<=b)/\a<=hi/\hi<=b then (if hi < lo then 10 else 0) else 2
theorem agx {lo hi:Int}{k:Int->Option α}:Aq α lo hi k=k (ma lo hi 0 9999):=by
 simp only [Aq,af,KW,sn,af,C1,yI,af,P7,xl,ra]
 unfold ma
 by_cases h1:(0:Int)<=lo/\lo<=9999
 ·rw [if_pos h1]
  by_cases h2:(0:Int)<=hi/\hi<=9999
  ·rw [if_pos h2,bi,if_pos (And.intro h1 h2)]
   by_cases h3:hi < lo
   ·rw [if_pos h3,if_pos h3]
   ·rw [if_neg h3,if_neg h3]
  ·rw [if_neg h2,if_neg (fun h=>h2 h.2)]
 ·rw [if_neg h1,aq,if_neg (fun h=>h1 h.1)]
theorem Sg {lo hi:Int}{k:Int->Option α}:yj α lo hi k=k (ma lo hi 1000 200000):=by
 simp only [yj,af,Oy,tf,af,CZ,zR,af,MD,xl,ra]
 unfold ma
 by_cases h1:(1000:Int)<=lo/\lo<=200000
 ·rw [if_pos h1]
  by_cases h2:(1000:Int)<=hi/\hi<=200000
  ·rw [if_pos h2,bi,if_pos (And.intro h1 h2)]
   by_cases h3:hi < lo
   ·rw [if_pos h3,if_pos h3]
   ·rw [if_neg h3,if_neg h3]
  ·rw [if_neg h2,if_neg (fun h=>h2 h.2)]
 ·rw [if_neg h1,aq,if_neg (fun h=>h1 h.1)]
def BF (l:L5):Bool:=decide (((5000<=l.1/\l.1<=80000)/\5000<=l.2.1/\l.2.1<=80000)/\((0<=l.2.2.1/\l.2.2.1<=1000000)/\0<=l.2.2.2.1/\l.2.2.2.1<=1000000)/\0<=l.2.2.2.2/\l.2.2.2.2<=80000)
def jA (l:L5):Int:=if BF l=true then (if l.2.1 < l.1 then 10 else if l.2.2.2.1 < l.2.2.1 then 10 else 0) else 2
theorem alR (l:L5){k:Bool->Option α}:ph α l.1 l.2.1 l.2.2.1 l.2.2.2.1 l.2.2.2.2 k=if BF l=true then k false else k true:=by
 simp only [ph,af,Iz,nD,af,F1,zt,af,MB,vj,af,E8,xl,ra]
 unfold BF
 by_cases h1:5000<=l.1/\l.1<=80000
 ·rw [if_pos h1]
  by_cases h2:5000<=l.2.1/\l.2.1<=80000
  ·rw [if_pos h2]
   by_cases h3:0<=l.2.2.1/\l.2.2.1<=1000000
   ·rw [if_pos h3]
    by_cases h4:0<=l.2.2.2.1/\l.2.2.2.1<=1000000
    ·rw [if_pos h4]
     by_cases h5:0<=l.2.2.2.2/\l.2.2.2.2<=80000
     ·rw [decide_eq_true h5,if_pos (decide_eq_true ⟨⟨h1,h2⟩,⟨h3,h4⟩,h5⟩)];rfl
     ·rw [decide_eq_false h5,if_neg (fun h=>h5 (of_decide_eq_true h).2.2)];rfl
    ·rw [if_neg h4,if_neg (fun h=>h4 (of_decide_eq_true h).2.1.2)]
   ·rw [if_neg h3,if_neg (fun h=>h3 (of_decide_eq_true h).2.1.1)]
  ·rw [if_neg h2,if_neg (fun h=>h2 (of_decide_eq_true h).1.2)]
 ·rw [if_neg h1,if_neg (fun h=>h1 (of_decide_eq_true h).1.1)]
def lsE:List L5->Int
 | []=>0
 | l::ls=>if jA l=0 then lsE ls else jA l
theorem akx {ls:List L5}(hA:ls.length<=40){k1:Int->Int->Option α}{k2:Int->Bool->Option α}{Y:Option α}{K:Int->Option α}(h1:∀ x e,k1 x e=K e)(h2:∀ x b,k2 x b=Y) :
  ∀ (rest:List L5) (i n:Nat),ls.drop i=rest->i<=ls.length->rest.length < n ->
  oo α (ls.map rL) (ls.length:Int) k1 k2 n (i:Int)=if lsE rest=0 then Y else K (lsE rest):=by
 intro rest
 induction rest with
 | nil=>
  intro i n hd hi hn
  obtain⟨n,rfl⟩:∃ n',n=n'+1:=⟨n - 1,by simp only [List.length_nil] at hn;omega⟩
  have hl:ls.length<=i:=List.drop_eq_nil_iff.1 hd
  rw [oo]
  simp only [r5]
  rw [decide_eq_false (by omega),ap,h2]
  rfl
 | cons l rs ih=>
  intro i n hd hi hn
  obtain⟨n,rfl⟩:∃ n',n=n'+1:=⟨n - 1,by omega⟩
  have hl:i < ls.length:=by
   by_cases h:i < ls.length
   ·exact h
   ·rw [List.drop_eq_nil_of_le (by omega)] at hd;cases hd
  have hg:ls[i]?=some l:=by
   have:=congrArg List.head? hd
   rw [List.head?_drop] at this
   exact this
  have hd':ls.drop (i+1)=rs:=by
   have:=congrArg List.tail hd
   rw [List.tail_drop] at this
   exact this
  have hw:w64 ((i:Int)+1)=((i+1:Nat):Int):=by rw [ak (by omega) (by omega)];omega
  have hn':rs.length < n:=by simp only [List.length_cons] at hn;omega
  rw [oo]
  simp only [r5]
  rw [decide_eq_true (by omega),aq,Z9 hg,alR]
  simp only [aq,ap,bi,h1,hw]
  rw [ih (i+1) n hd' (by omega) hn']
  unfold lsE jA
  by_cases c1:BF l=true
  ·simp only [if_pos c1]
   by_cases c2:l.2.1 < l.1
   ·simp only [if_pos c2];rfl
   ·simp only [if_neg c2]
    by_cases c3:l.2.2.2.1 < l.2.2.1
    ·simp only [if_pos c3];rfl
    ·simp only [if_neg c3,if_true]
     cases rs <;> rfl
  ·simp only [if_neg c1];rfl
def ckA (A:Ask):Int:=
 if 5000<=A.ix/\A.ix<=80000 then
  if ma A.s1 A.s2 0 9999=0 then
   if 0<=A.pol/\A.pol<=1 then
    if ma A.w1 A.w2 1000 200000=0 then
     if 40 < (A.ls.length:Int) then 8 else
     if lsE A.ls=0 then
      if 5000<=A.oi/\A.oi<=80000 then (if 0<=A.ol/\A.ol<=80000 then 0 else 2) else 2
     else lsE A.ls
    else ma A.w1 A.w2 1000 200000
   else 11
  else ma A.s1 A.s2 0 9999
 else 2
theorem JX (A:Ask){k:Int->Option α}:A2 α A.ix A.s1 A.s2 A.pol A.w1 A.w2 (A.ls.map rL) A.oi A.ol (fun _ e=>k e)=k (ckA A):=by
 simp only [A2,af,WE,nD,af,F1,vj,af,E8,xl,ra,agx,Sg,eE,bi,List.length_map]
 unfold ckA
 split
 ·split
  ·split
   ·split
    ·split
     ·rfl
     ·rename_i h
      have hf:A.ls.length < aN:=by have:=cB;omega
      rw [yb,af,HX]
      refine (akx (K:=k) (by omega) (fun _ _=>rfl) (fun _ _=>rfl) A.ls 0 aN rfl (Nat.zero_le _) hf).trans ?_
      by_cases c:lsE A.ls=0
      ·rw [if_pos c,if_pos c]
       split
       ·split <;> rfl
       ·rfl
      ·rw [if_neg c,if_neg c]
    ·rfl
   ·rfl
  ·rfl
 ·rfl
theorem abf {lo hi a b:Int}(h:ma lo hi a b=0):(a<=lo/\lo<=b)/\(a<=hi/\hi<=b)/\lo<=hi:=by
 unfold ma at h
 split at h
 ·rename_i g
  split at h
  ·cases h
  ·omega
 ·cases h
theorem yB {A:Ask}(h:ckA A=0):(5000<=A.ix/\A.ix<=80000)/\ma A.s1 A.s2 0 9999=0/\(0<=A.pol/\A.pol<=1)/\ma A.w1 A.w2 1000 200000=0/\A.ls.length<=40/\lsE A.ls=0/\(5000<=A.oi/\A.oi<=80000)/\0<=A.ol/\A.ol<=80000:=by
 unfold ckA at h
 by_cases c1:5000<=A.ix/\A.ix<=80000
 ·rw [if_pos c1] at h
  by_cases c2:ma A.s1 A.s2 0 9999=0
  ·rw [if_pos c2] at h
   by_cases c3:0<=A.pol/\A.pol<=1
   ·rw [if_pos c3] at h
    by_cases c4:ma A.w1 A.w2 1000 200000=0
    ·rw [if_pos c4] at h
     by_cases c5:40 < (A.ls.length:Int)
     ·rw [if_pos c5] at h;cases h
     ·rw [if_neg c5] at h
      by_cases c6:lsE A.ls=0
      ·rw [if_pos c6] at h
       by_cases c7:5000<=A.oi/\A.oi<=80000
       ·rw [if_pos c7] at h
        by_cases c8:0<=A.ol/\A.ol<=80000
        ·exact⟨c1,c2,c3,c4,by omega,c6,c7,c8⟩
        ·rw [if_neg c8] at h;cases h
       ·rw [if_neg c7] at h;cases h
      ·rw [if_neg c6] at h;exact absurd h c6
    ·rw [if_neg c4] at h;exact absurd h c4
   ·rw [if_neg c3] at h;cases h
  ·rw [if_neg c2] at h;exact absurd h c2
 ·rw [if_neg c1] at h;cases h
end Go.AM.K
