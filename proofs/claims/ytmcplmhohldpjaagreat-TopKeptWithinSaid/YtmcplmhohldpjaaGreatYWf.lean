/- Stacks: indices, admittances, turns and factors. -/
import Derived.Test.YtmcplmhohldpjaaGreatYWe
namespace Go.AM.K
set_option linter.unusedVariables false
set_option linter.unusedSimpArgs false
variable {α:Type}
abbrev L5:=Int × Int × Int × Int × Int
abbrev rL (l:L5):List DC:=[.v (.int .i64 l.1),.v (.int .i64 l.2.1),.v (.int .i64 l.2.2.1),.v (.int .i64 l.2.2.2.1),.v (.int .i64 l.2.2.2.2)]
structure Ask where
 ix:Int
 s1:Int
 s2:Int
 pol:Int
 w1:Int
 w2:Int
 ls:List L5
 oi:Int
 ol:Int
theorem row_L {ls:List L5}{i:Nat}{l:L5}(h:ls[i]?=some l)(hi:i < 1000000){f:Int->Int->Int->Int->Int->Option α} :
  rowK (ls.map rL) (w64 (((i+1:Nat):Int) - 1)) [.int .i64,.int .i64,.int .i64,.int .i64,.int .i64] f=f l.1 l.2.1 l.2.2.1 l.2.2.2.1 l.2.2.2.2:=by
 rw [show w64 (((i+1:Nat):Int) - 1)=(i:Int) by rw [w64_in (by omega) (by omega)];omega]
 refine (rowK_get (r:=rL l) ?_).trans rfl
 rw [List.getElem?_map,h];rfl
theorem row_L0 {ls:List L5}{i:Nat}{l:L5}(h:ls[i]?=some l){f:Int->Int->Int->Int->Int->Option α} :
  rowK (ls.map rL) (i:Int) [.int .i64,.int .i64,.int .i64,.int .i64,.int .i64] f=f l.1 l.2.1 l.2.2.1 l.2.2.2.1 l.2.2.2.2:=by
 refine (rowK_get (r:=rL l) ?_).trans rfl
 rw [List.getElem?_map,h];rfl
def medE (A:Ask)(n:Nat):Int × Int × Int:=match n with
 | 0=>(A.ix,A.ix,0)
 | n+1=>match A.ls[n]? with
  | some l=>(l.1,l.2.1,l.2.2.2.2)
  | none=>(A.oi,A.oi,A.ol)
theorem medE_some {A:Ask}{n:Nat}{l:L5}(h:A.ls[n]?=some l):medE A (n+1)=(l.1,l.2.1,l.2.2.2.2):=by
 show (match A.ls[n]? with
  | some l=>(l.1,l.2.1,l.2.2.2.2)
  | none=>(A.oi,A.oi,A.ol))=_
 rw [h]
theorem medE_none {A:Ask}{n:Nat}(h:A.ls[n]?=none):medE A (n+1)=(A.oi,A.oi,A.ol):=by
 show (match A.ls[n]? with
  | some l=>(l.1,l.2.1,l.2.2.2.2)
  | none=>(A.oi,A.oi,A.ol))=_
 rw [h]
theorem f82_bn (A:Ask){n:Nat}(hn:n < 1000000){k:Int->Int->Int->Option α} :
  f82_0 α A.ix (A.ls.map rL) A.oi A.ol (n:Int) k=k (medE A n).1 (medE A n).2.1 (medE A n).2.2:=by
 simp only [f82_0,sld_eq,f82_0g,cK_beq,cK_dec,List.length_map]
 cases n with
 | zero=>rw [if_pos (show ((0:Nat):Int)=0 from rfl)];rfl
 | succ n=>
  rw [if_neg (by omega)]
  cases h:A.ls[n]? with
  | some l=>
   have hl:n < A.ls.length:=(List.getElem?_eq_some_iff.1 h).1
   rw [if_pos (by omega),row_L h (by omega),medE_some h]
  | none=>
   have hl:A.ls.length<=n:=List.getElem?_eq_none_iff.1 h
   rw [if_neg (by omega),medE_none h]
def indexE (A:Ask)(n:Nat)(e:Int):Bl × Int:=
 bnd (realS e (dnI (w64 ((medE A n).1*1048576)) 10000) (upI (w64 ((medE A n).2.1*1048576)) 10000)) fun u e1=>
 if (medE A n).2.2=0 then (u,e1) else
 bnd (fracS e1 (medE A n).2.2 10000) fun f e2=>
 if e2=0 then bnd (turnE f) fun t e3=>bnd (two plusE e3 u t) fun v e4=>(v,e4)
 else bnd (two plusE e2 u f) fun v e4=>(v,e4)
theorem f80_bn (A:Ask){n:Nat}(hn:n < 1000000)(e:Int){k:Nat->Nat->Int->Int->Option α} :
  f80_0 α e A.ix (A.ls.map rL) A.oi A.ol (n:Int) k=bnd (indexE A n e) fun u e=>k u.n1 u.n2 u.r e:=by
 rw [bnd_eq]
 show _=KB k (indexE A n e)
 unfold indexE
 simp only [f80_0,sld_eq,f80_0g,J80_0_0,sld_eq,J80_0_0g,f82_bn A hn,f39_raw (d:=10000) (by decide),f40_raw (d:=10000) (by decide),f81_bl,f134_bl,f135_bn,f83_0,sld_eq,f83_0g,f75_bl,cK_beq,bnd_push (KB k),apply_ite (KB k),KB_p]
def normalE (A:Ask)(n:Nat)(e:Int):Bl × Bool × Int:=
 bnd (indexE A n e) fun u e1=>
 bnd (realS e1 (dnI (w64 ((w64 (A.ix*A.s1))*1048576)) 100000000) (upI (w64 ((w64 (A.ix*A.s2))*1048576)) 100000000)) fun b e2=>
 bnd (two timesE e2 u u) fun v e3=>bnd (two timesE e3 b b) fun c e4=>bnd (two minusE e4 v c) fun d e5=>
 if (medE A n).2.2=0 then
  bndP (prtE e5 d) fun lo hi _ _ e6=>if e6=0 then bnd (rrootE lo hi) fun q e7=>(q,decide (lo < 0),e7) else (Bl0,false,e6)
 else if e5=0 then bnd (rootE d) fun q e6=>(q,false,e6) else (Bl0,false,e5)
theorem f35_bn (A:Ask){n:Nat}(hn:n < 1000000)(e:Int){k:Nat->Nat->Int->Bool->Int->Option α} :
  f35_0 α e A.ix A.s1 A.s2 (A.ls.map rL) A.oi A.ol (n:Int) k=bndN (normalE A n e) fun u s e=>k u.n1 u.n2 u.r s e:=by
 rw [bndN_eq]
 show _=KN k (normalE A n e)
 unfold normalE
 simp only [f35_0,sld_eq,f35_0g,f80_bn A hn,f82_bn A hn,f39_raw (d:=100000000) (by decide),f40_raw (d:=100000000) (by decide),f81_bl,f76_bl,f78_bl,f33_bn,f84_bn,f85_bn,f83_0,sld_eq,f83_0g,cK_bne,bnd_push (KN k),bndP_push (KN k),apply_ite (KN k),KN_p,Bl0_n1,Bl0_n2,Bl0_r]
def admE (A:Ask)(n:Nat)(e:Int):Bl × Int:=
 bndN (normalE A n e) fun q _ e1=>if A.pol=0 then (q,e1) else
 bnd (indexE A n e1) fun u e2=>bnd (two timesE e2 u u) fun v e3=>bnd (two quoE e3 v q) fun w e4=>(w,e4)
theorem f34_bn (A:Ask){n:Nat}(hn:n < 1000000)(e:Int){k:Nat->Nat->Int->Int->Option α} :
  f34_0 α e A.ix A.s1 A.s2 A.pol (A.ls.map rL) A.oi A.ol (n:Int) k=bnd (admE A n e) fun u e=>k u.n1 u.n2 u.r e:=by
 rw [bnd_eq]
 show _=KB k (admE A n e)
 unfold admE
 simp only [f34_0,sld_eq,f34_0g,f35_bn A hn,f80_bn A hn,f76_bl,f77_bl,cK_beq,bnd_push (KB k),bndN_push (KB k),apply_ite (KB k),KB_p]
def trnE (A:Ask)(l:L5)(a b c d e:Int):Q4 × Int:=
 ((dnI (w64 ((w64 (4*pos a))*l.2.2.1)) A.w2,upI (w64 ((w64 (4*pos b))*l.2.2.2.1)) A.w1,dnI (w64 ((w64 (4*pos c))*l.2.2.1)) A.w2,upI (w64 ((w64 (4*pos d))*l.2.2.2.1)) A.w1),e)
def turnP (A:Ask)(l:L5)(n:Nat)(e:Int):Q4 × Int:=
 bndN (normalE A n e) fun q s e1=>bndP (prtE e1 q) fun a b c d e2=>
 if l.2.2.2.2=0 then (if s=true then trnE A l 0 0 c d e2 else trnE A l a b 0 0 e2) else trnE A l a b c d e2
theorem KP_t {A:Ask}{l:L5}{a b c d e:Int}{k:Int->Int->Int->Int->Int->Option α}:KP k (trnE A l a b c d e)=
  k (dnI (w64 ((w64 (4*pos a))*l.2.2.1)) A.w2) (upI (w64 ((w64 (4*pos b))*l.2.2.2.1)) A.w1) (dnI (w64 ((w64 (4*pos c))*l.2.2.1)) A.w2) (upI (w64 ((w64 (4*pos d))*l.2.2.2.1)) A.w1) e:=by
 simp only [KP,trnE]
theorem f163_bn (A:Ask){i:Nat}{l:L5}(h:A.ls[i]?=some l)(hi:i < 100000)(h1:A.w1 ≠ 0)(h2:A.w2 ≠ 0)(e:Int){k:Int->Int->Int->Int->Int->Option α} :
  f163_0 α e A.ix A.s1 A.s2 A.w1 A.w2 (A.ls.map rL) A.oi A.ol ((i+1:Nat):Int) k=bndP (turnP A l (i+1) e) k:=by
 rw [bndP_eq]
 show _=KP k (turnP A l (i+1) e)
 unfold turnP
 simp only [f163_0,sld_eq,f163_0g,J163_0_0,sld_eq,J163_0_0g,f35_bn A (n:=i+1) (by omega),f33_bn,row_L h (by omega),f39_raw h2,f40_raw h1,f37_eq,cK_bne,bndN_push (KP k),bndP_push (KP k),apply_ite (KP k),KP_t]
 simp only [cK_b]
def factorE (A:Ask)(l:L5)(n:Nat)(t e:Int):Bl × Int:=
 bndP (turnP A l n e) fun a b c d e1=>if e1=0 then
  (if w64 (w64 (t*b) - w64 (t*a)) < 1048576 then
   bnd (arcE (w64 (t*a)) (w64 (t*b))) fun z e2=>if e2=0 then
    bndF (fadeE (w64 (t*c)) (w64 (t*d))) fun p q e3=>if e3=0 then bnd (realS e3 p q) fun s e4=>bnd (two timesE e4 z s) fun v e5=>(v,e5) else (Bl0,e3)
   else (Bl0,e2)
  else if e1=0 then
    bndF (fadeE (w64 (t*c)) (w64 (t*d))) fun p q e3=>if e3=0 then bnd (realS e3 p q) fun s e4=>bnd (two timesE e4 Blc s) fun v e5=>(v,e5) else (Bl0,e3)
   else (Bl0,e1))
  else (Bl0,e1)
theorem f125_bn (A:Ask){i:Nat}{l:L5}(h:A.ls[i]?=some l)(hi:i < 100000)(h1:A.w1 ≠ 0)(h2:A.w2 ≠ 0)(t e:Int){k:Nat->Nat->Int->Int->Option α} :
  f125_0 α e A.ix A.s1 A.s2 A.w1 A.w2 (A.ls.map rL) A.oi A.ol ((i+1:Nat):Int) t k=bnd (factorE A l (i+1) t e) fun u e=>k u.n1 u.n2 u.r e:=by
 rw [bnd_eq]
 show _=KB k (factorE A l (i+1) t e)
 unfold factorE
 simp only [f125_0,sld_eq,f125_0g,J125_0_0,sld_eq,J125_0_0g,f163_bn A h hi h1 h2,f164_bn,f165_bn,f81_bl,f76_bl,f76_c,f83_0,sld_eq,f83_0g,cK_bne,cK_dec,bnd_push (KB k),bndP_push (KB k),bndF_push (KB k),apply_ite (KB k),KB_p,Bl0_n1,Bl0_n2,Bl0_r]
end Go.AM.K
