/- Stacks: amplitudes, right asks, shares. -/
import Derived.Test.YtmcplmhohldpjaaGreatYWg
namespace Go.AM.K
set_option linter.unusedVariables false
set_option linter.unusedSimpArgs false
variable {α:Type}
def ampE (A:Ask)(tr:Bool)(e:Int):Bl × Int:=
 bnd (admE A 0 e) fun f e1=>bndT (throughE A tr e1) fun p g e2=>bnd (admE A (A.ls.length+1) e2) fun l e3=>
 bnd (two timesE e3 p.2.1 l) fun t1 e4=>bnd (two plusE e4 p.1 t1) fun b e5=>bnd (two timesE e5 p.2.2.2 l) fun t2 e6=>bnd (two plusE e6 p.2.2.1 t2) fun c e7=>
 bnd (two timesE e7 f b) fun a e8=>bnd (two plusE e8 a c) fun d e9=>
 if tr=true then bnd (two plusE e9 f f) fun s e10=>bnd (two timesE e10 s g) fun z e11=>bnd (two quoE e11 z d) fun v e12=>(v,e12)
 else bnd (two minusE e9 a c) fun z e10=>bnd (two quoE e10 z d) fun v e11=>(v,e11)
theorem f32_bn (A:Ask)(tr:Bool)(hA:A.ls.length<=40)(h1:A.w1 ≠ 0)(h2:A.w2 ≠ 0)(e:Int){k:Nat->Nat->Int->Int->Option α} :
  f32_0 α e A.ix A.s1 A.s2 A.pol A.w1 A.w2 (A.ls.map rL) A.oi A.ol tr k=bnd (ampE A tr e) fun u e=>k u.n1 u.n2 u.r e:=by
 rw [bnd_eq]
 show _=KB k (ampE A tr e)
 have hw:w64 ((A.ls.length:Int)+1)=((A.ls.length+1:Nat):Int):=by rw [w64_in (by omega) (by omega)];omega
 have hl:A.ls.length+1 < 1000000:=by omega
 have h0:∀ (e:Int) (k:Nat->Nat->Int->Int->Option α),f34_0 α e A.ix A.s1 A.s2 A.pol (A.ls.map rL) A.oi A.ol 0 k=bnd (admE A 0 e) fun u e=>k u.n1 u.n2 u.r e:=fun e k=>f34_bn A (n:=0) (by decide) e
 unfold ampE
 simp only [f32_0,sld_eq,f32_0g,List.length_map,hw,h0,f34_bn A hl,f74_bn A tr hA h1 h2,f76_bl,f75_bl,f78_bl,f77_bl,bnd_push (KB k),bndT_push (KB k),apply_ite (KB k),KB_p]
 simp only [cK_b]
def lsy (A:Ask):Nat->Nat->Bool
 | 0,_=>false
 | m+1,n=>if (medE A n).2.2=0 then lsy A m (n+1) else true
theorem R41_go {A:Ask}(hA:A.ls.length<=40){k1 Y:Option α}{k2:Int->Bool->Option α}(hk:∀ x b,k2 x b=Y) :
  ∀ (m n f:Nat),n+m=A.ls.length+2->m < f->R41_0_0 α ((A.ls.length+2:Nat):Int) A.ix (A.ls.map rL) A.oi A.ol k1 k2 f (n:Int)=if lsy A m n=true then k1 else Y:=by
 intro m
 induction m with
 | zero=>
  intro n f h hf
  obtain⟨f,rfl⟩:∃ f',f=f'+1:=⟨f - 1,by omega⟩
  rw [R41_0_0]
  simp only [S41_0_0]
  rw [decide_eq_false (by omega),cK_false,hk]
  rfl
 | succ m ih=>
  intro n f h hf
  obtain⟨f,rfl⟩:∃ f',f=f'+1:=⟨f - 1,by omega⟩
  rw [R41_0_0]
  simp only [S41_0_0]
  rw [decide_eq_true (by omega),cK_true,f82_bn A (by omega),cK_bne]
  have hw:w64 ((n:Int)+1)=((n+1:Nat):Int):=by rw [w64_in (by omega) (by omega)];omega
  rw [hw,ih (n+1) f (by omega) (by omega)]
  unfold lsy
  by_cases c:(medE A n).2.2=0
  ·rw [if_pos c,if_pos c]
   cases m <;> rfl
  ·rw [if_neg c,if_neg c,if_pos rfl]
def lossA (A:Ask):Bool:=lsy A (A.ls.length+2) 0
theorem f41_bn (A:Ask)(hA:A.ls.length<=40){k:Bool->Option α}:f41_0 α A.ix (A.ls.map rL) A.oi A.ol k=if lossA A=true then k true else k false:=by
 have hw:w64 ((A.ls.length:Int)+2)=((A.ls.length+2:Nat):Int):=by rw [w64_in (by omega) (by omega)];omega
 have hf:A.ls.length+2 < fuel:=by have:=fuel_ge;omega
 simp only [f41_0,sld_eq,f41_0g,List.length_map,hw,L41_0_0,sld_eq,L41_0_0g]
 exact R41_go hA (fun _ _=>rfl) (A.ls.length+2) 0 fuel (by omega) hf
theorem f110_eq {n lo hi:Int}{k:Bool->Option α}:f110_0 α n lo hi k=k (decide (lo<=n/\n<=hi)):=by
 simp only [f110_0,sld_eq,f110_0g]
 by_cases h:lo<=n
 ·rw [decide_eq_true h,cK_true]
  by_cases h2:n<=hi
  ·rw [decide_eq_true h2,decide_eq_true ⟨h,h2⟩]
  ·rw [decide_eq_false h2,decide_eq_false (fun q=>h2 q.2)]
 ·rw [decide_eq_false h,cK_false,decide_eq_false (fun q=>h q.1)]
theorem cK_nd {p:Prop}[Decidable p]{a b:Option α}:cK (!decide p) a b=if p then b else a:=by
 by_cases h:p
 ·rw [if_pos h,decide_eq_true h];rfl
 ·rw [if_neg h,decide_eq_false h];rfl
def rngE (lo hi a b:Int):Int:=if (a<=lo/\lo<=b)/\a<=hi/\hi<=b then (if hi < lo then 10 else 0) else 2
theorem f115_eq {lo hi:Int}{k:Int->Option α}:f115_0 α lo hi k=k (rngE lo hi 0 9999):=by
 simp only [f115_0,sld_eq,f115_0g,J115_0_0,sld_eq,J115_0_0g,f116_0,sld_eq,f116_0g,f110_eq,cK_nd]
 unfold rngE
 by_cases h1:(0:Int)<=lo/\lo<=9999
 ·rw [if_pos h1]
  by_cases h2:(0:Int)<=hi/\hi<=9999
  ·rw [if_pos h2,cK_dec,if_pos (And.intro h1 h2)]
   by_cases h3:hi < lo
   ·rw [if_pos h3,if_pos h3]
   ·rw [if_neg h3,if_neg h3]
  ·rw [if_neg h2,if_neg (fun h=>h2 h.2)]
 ·rw [if_neg h1,cK_true,if_neg (fun h=>h1 h.1)]
theorem f115_1_eq {lo hi:Int}{k:Int->Option α}:f115_1 α lo hi k=k (rngE lo hi 1000 200000):=by
 simp only [f115_1,sld_eq,f115_1g,J115_1_0,sld_eq,J115_1_0g,f117_0,sld_eq,f117_0g,f110_eq,cK_nd]
 unfold rngE
 by_cases h1:(1000:Int)<=lo/\lo<=200000
 ·rw [if_pos h1]
  by_cases h2:(1000:Int)<=hi/\hi<=200000
  ·rw [if_pos h2,cK_dec,if_pos (And.intro h1 h2)]
   by_cases h3:hi < lo
   ·rw [if_pos h3,if_pos h3]
   ·rw [if_neg h3,if_neg h3]
  ·rw [if_neg h2,if_neg (fun h=>h2 h.2)]
 ·rw [if_neg h1,cK_true,if_neg (fun h=>h1 h.1)]
def rowB (l:L5):Bool:=decide (((5000<=l.1/\l.1<=80000)/\5000<=l.2.1/\l.2.1<=80000)/\((0<=l.2.2.1/\l.2.2.1<=1000000)/\0<=l.2.2.2.1/\l.2.2.2.1<=1000000)/\0<=l.2.2.2.2/\l.2.2.2.2<=80000)
def rowE (l:L5):Int:=if rowB l=true then (if l.2.1 < l.1 then 10 else if l.2.2.2.1 < l.2.2.1 then 10 else 0) else 2
theorem J70_eq (l:L5){k:Bool->Option α}:J70_0_0 α l.1 l.2.1 l.2.2.1 l.2.2.2.1 l.2.2.2.2 k=if rowB l=true then k false else k true:=by
 simp only [J70_0_0,sld_eq,J70_0_0g,f107_0,sld_eq,f107_0g,f109_0,sld_eq,f109_0g,f108_0,sld_eq,f108_0g,f110_eq,cK_nd]
 unfold rowB
 by_cases h1:5000<=l.1/\l.1<=80000
 ·rw [if_pos h1]
  by_cases h2:5000<=l.2.1/\l.2.1<=80000
  ·rw [if_pos h2]
   by_cases h3:0<=l.2.2.1/\l.2.2.1<=1000000
   ·rw [if_pos h3]
    by_cases h4:0<=l.2.2.2.1/\l.2.2.2.1<=1000000
    ·rw [if_pos h4]
     by_cases h5:0<=l.2.2.2.2/\l.2.2.2.2<=80000
     ·rw [decide_eq_true h5,if_pos (decide_eq_true ⟨⟨h1,h2⟩,⟨h3,h4⟩,h5⟩)];rfl
     ·rw [decide_eq_false h5,if_neg (fun h=>h5 (of_decide_eq_true h).2.2)];rfl
    ·rw [if_neg h4,if_neg (fun h=>h4 (of_decide_eq_true h).2.1.2)]
   ·rw [if_neg h3,if_neg (fun h=>h3 (of_decide_eq_true h).2.1.1)]
  ·rw [if_neg h2,if_neg (fun h=>h2 (of_decide_eq_true h).1.2)]
 ·rw [if_neg h1,if_neg (fun h=>h1 (of_decide_eq_true h).1.1)]
def lsE:List L5->Int
 | []=>0
 | l::ls=>if rowE l=0 then lsE ls else rowE l
theorem R70_go {ls:List L5}(hA:ls.length<=40){k1:Int->Int->Option α}{k2:Int->Bool->Option α}{Y:Option α}{K:Int->Option α}(h1:∀ x e,k1 x e=K e)(h2:∀ x b,k2 x b=Y) :
  ∀ (rest:List L5) (i n:Nat),ls.drop i=rest->i<=ls.length->rest.length < n ->
  R70_0_1 α (ls.map rL) (ls.length:Int) k1 k2 n (i:Int)=if lsE rest=0 then Y else K (lsE rest):=by
 intro rest
 induction rest with
 | nil=>
  intro i n hd hi hn
  obtain⟨n,rfl⟩:∃ n',n=n'+1:=⟨n - 1,by simp only [List.length_nil] at hn;omega⟩
  have hl:ls.length<=i:=List.drop_eq_nil_iff.1 hd
  rw [R70_0_1]
  simp only [S70_0_1]
  rw [decide_eq_false (by omega),cK_false,h2]
  rfl
 | cons l rs ih=>
  intro i n hd hi hn
  obtain⟨n,rfl⟩:∃ n',n=n'+1:=⟨n - 1,by omega⟩
  have hl:i < ls.length:=by
   by_cases h:i < ls.length
   ·exact h
   ·rw [List.drop_eq_nil_of_le (by omega)] at hd;cases hd
  have hg:ls[i]?=some l:=by
   have:=congrArg List.head? hd
   rw [List.head?_drop] at this
   exact this
  have hd':ls.drop (i+1)=rs:=by
   have:=congrArg List.tail hd
   rw [List.tail_drop] at this
   exact this
  have hw:w64 ((i:Int)+1)=((i+1:Nat):Int):=by rw [w64_in (by omega) (by omega)];omega
  have hn':rs.length < n:=by simp only [List.length_cons] at hn;omega
  rw [R70_0_1]
  simp only [S70_0_1]
  rw [decide_eq_true (by omega),cK_true,row_L0 hg,J70_eq]
  simp only [cK_true,cK_false,cK_dec,h1,hw]
  rw [ih (i+1) n hd' (by omega) hn']
  unfold lsE rowE
  by_cases c1:rowB l=true
  ·simp only [if_pos c1]
   by_cases c2:l.2.1 < l.1
   ·simp only [if_pos c2];rfl
   ·simp only [if_neg c2]
    by_cases c3:l.2.2.2.1 < l.2.2.1
    ·simp only [if_pos c3];rfl
    ·simp only [if_neg c3,if_true]
     cases rs <;> rfl
  ·simp only [if_neg c1];rfl
def ckA (A:Ask):Int:=
 if 5000<=A.ix/\A.ix<=80000 then
  if rngE A.s1 A.s2 0 9999=0 then
   if 0<=A.pol/\A.pol<=1 then
    if rngE A.w1 A.w2 1000 200000=0 then
     if 40 < (A.ls.length:Int) then 8 else
     if lsE A.ls=0 then
      if 5000<=A.oi/\A.oi<=80000 then (if 0<=A.ol/\A.ol<=80000 then 0 else 2) else 2
     else lsE A.ls
    else rngE A.w1 A.w2 1000 200000
   else 11
  else rngE A.s1 A.s2 0 9999
 else 2
theorem f70_eq (A:Ask){k:Int->Option α}:f70_0 α A.ix A.s1 A.s2 A.pol A.w1 A.w2 (A.ls.map rL) A.oi A.ol (fun _ e=>k e)=k (ckA A):=by
 simp only [f70_0,sld_eq,f70_0g,f107_0,sld_eq,f107_0g,f108_0,sld_eq,f108_0g,f110_eq,cK_nd,f115_eq,f115_1_eq,cK_bne,cK_dec,List.length_map]
 unfold ckA
 split
 ·split
  ·split
   ·split
    ·split
     ·rfl
     ·rename_i h
      have hf:A.ls.length < fuel:=by have:=fuel_ge;omega
      rw [L70_0_1,sld_eq,L70_0_1g]
      refine (R70_go (K:=k) (by omega) (fun _ _=>rfl) (fun _ _=>rfl) A.ls 0 fuel rfl (Nat.zero_le _) hf).trans ?_
      by_cases c:lsE A.ls=0
      ·rw [if_pos c,if_pos c]
       split
       ·split <;> rfl
       ·rfl
      ·rw [if_neg c,if_neg c]
    ·rfl
   ·rfl
  ·rfl
 ·rfl
theorem rngE_ok {lo hi a b:Int}(h:rngE lo hi a b=0):(a<=lo/\lo<=b)/\(a<=hi/\hi<=b)/\lo<=hi:=by
 unfold rngE at h
 split at h
 ·rename_i g
  split at h
  ·cases h
  ·omega
 ·cases h
theorem ckA_ok {A:Ask}(h:ckA A=0):(5000<=A.ix/\A.ix<=80000)/\rngE A.s1 A.s2 0 9999=0/\(0<=A.pol/\A.pol<=1)/\rngE A.w1 A.w2 1000 200000=0/\A.ls.length<=40/\lsE A.ls=0/\(5000<=A.oi/\A.oi<=80000)/\0<=A.ol/\A.ol<=80000:=by
 unfold ckA at h
 by_cases c1:5000<=A.ix/\A.ix<=80000
 ·rw [if_pos c1] at h
  by_cases c2:rngE A.s1 A.s2 0 9999=0
  ·rw [if_pos c2] at h
   by_cases c3:0<=A.pol/\A.pol<=1
   ·rw [if_pos c3] at h
    by_cases c4:rngE A.w1 A.w2 1000 200000=0
    ·rw [if_pos c4] at h
     by_cases c5:40 < (A.ls.length:Int)
     ·rw [if_pos c5] at h;cases h
     ·rw [if_neg c5] at h
      by_cases c6:lsE A.ls=0
      ·rw [if_pos c6] at h
       by_cases c7:5000<=A.oi/\A.oi<=80000
       ·rw [if_pos c7] at h
        by_cases c8:0<=A.ol/\A.ol<=80000
        ·exact⟨c1,c2,c3,c4,by omega,c6,c7,c8⟩
        ·rw [if_neg c8] at h;cases h
       ·rw [if_neg c7] at h;cases h
      ·rw [if_neg c6] at h;exact absurd h c6
    ·rw [if_neg c4] at h;exact absurd h c4
   ·rw [if_neg c3] at h;cases h
  ·rw [if_neg c2] at h;exact absurd h c2
 ·rw [if_neg c1] at h;cases h
end Go.AM.K
