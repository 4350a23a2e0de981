/- Bands: the ends of a share over a band, the tree of one piece. -/
import Derived.Test.YtamjfkiklngagaaGreatRWk
namespace Go.AM.K
set_option linter.unusedVariables false
set_option linter.unusedSimpArgs false
variable {α:Type}
def overE (d:Dm)(ds:List Dm)(ls:List L5)(oi ol:Int):(Int × Int) × Int:=
 if tskE d ds ls oi ol=0 then dshE d ls oi ol else ((0,0),tskE d ds ls oi ol)
theorem R6_one {a b:Int}{n:Nat}{k:Int->Int->Option α} :
  R6_0_1 α ((List.length [[DC.v (.int .i64 a),DC.v (.int .i64 b)]]:Nat):Int) [[DC.v (.int .i64 a),DC.v (.int .i64 b)]] (fun _ _ x y=>k x y) (n+2) 0 a b=k a b:=by
 rw [R6_0_1]
 simp only [S6_0_1,S6_0_1g]
 have e1:decide ((0:Int) < ((List.length [[DC.v (.int .i64 a),DC.v (.int .i64 b)]]:Nat):Int))=true:=rfl
 rw [e1,cK_true]
 show R6_0_1 α ((List.length [[DC.v (.int .i64 a),DC.v (.int .i64 b)]]:Nat):Int) [[DC.v (.int .i64 a),DC.v (.int .i64 b)]] (fun _ _ x y=>k x y) (n+1) 1 (if a < a then a else a) (if b > b then b else b)=_
 rw [R6_0_1,if_neg (Int.lt_irrefl a),if_neg (Int.lt_irrefl b)]
 simp only [S6_0_1,S6_0_1g]
 have e2:decide ((1:Int) < ((List.length [[DC.v (.int .i64 a),DC.v (.int .i64 b)]]:Nat):Int))=false:=rfl
 rw [e2,cK_false]
theorem R6_fl {a b e:Int}{k:Int->Int->Int->Option α}:flatK [[[DC.v (.int .i64 a),DC.v (.int .i64 b)]]] (cK (e != 0) (k 0 0 e)
  (ixK [[DC.v (.int .i64 a),DC.v (.int .i64 b)]] 0 2 (ldK [[DC.v (.int .i64 a),DC.v (.int .i64 b)]] 0 0 [.int .i64,.int .i64] fun x60 x61=>
   L6_0_1 α ((List.length [[DC.v (.int .i64 a),DC.v (.int .i64 b)]]:Nat):Int) [[DC.v (.int .i64 a),DC.v (.int .i64 b)]] (fun _ _ x64 x65=>k x64 x65 0) 0 x60 x61)))=if e=0 then k a b 0 else k 0 0 e:=by
 have h:∀ x:Option α,flatK [[[DC.v (.int .i64 a),DC.v (.int .i64 b)]]] x=x:=fun _=>rfl
 rw [h,cK_bne]
 by_cases c:e=0
 ·rw [if_pos c,if_pos c]
  have h2:∀ f:Int->Int->Option α,ixK [[DC.v (.int .i64 a),DC.v (.int .i64 b)]] 0 2 (ldK [[DC.v (.int .i64 a),DC.v (.int .i64 b)]] 0 0 [.int .i64,.int .i64] f)=f a b:=fun _=>rfl
  refine (h2 _).trans ?_
  rw [L6_0_1]
  obtain⟨z,hz⟩:∃ z,fuel=z+2:=⟨fuel - 2,by have:=fuel_ge;omega⟩
  rw [hz]
  exact R6_one (k:=fun x y=>k x y 0)
 ·rw [if_neg c,if_neg c]
theorem tskE_ok {d:Dm}{ds:List Dm}{ls:List L5}{oi ol:Int}(h:tskE d ds ls oi ol=0):ckD d=0/\ckA (askD d ls oi ol)=0:=by
 unfold tskE at h
 by_cases c:dms (d::ds)=0
 ·rw [if_pos c] at h
  refine⟨?_,h⟩
  unfold dms at c
  rw [List.length_cons,if_neg (by omega)] at c
  by_cases c8:8 < ds.length+1
  ·rw [if_pos c8] at c;cases c
  ·rw [if_neg c8] at c
   by_cases cd:ckD d=0
   ·exact cd
   ·exfalso
    have:dsE (d::ds)=ckD d:=by
     show (if ckD d=0 then dsE ds else ckD d)=_
     rw [if_neg cd]
    rw [this] at c
    exact cd c
 ·rw [if_neg c] at h
  exact absurd h c
theorem f6_eq {d:Dm}{ds:List Dm}(hl:ds.length < 100){ls:List L5}{oi ol:Int}{k:Int->Int->Int->Option α} :
  f6_0 α ((d::ds).map rD) (ls.map rL) oi ol k=k (overE d ds ls oi ol).1.1 (overE d ds ls oi ol).1.2 (overE d ds ls oi ol).2:=by
 rw [f6_0,f6_0g,J6_0_0,J6_0_0g]
 refine (f19_eq hl).trans ?_
 unfold overE
 by_cases c:tskE d ds ls oi ol=0
 ·rw [if_pos c,if_pos c]
  obtain⟨hd,ha⟩:=tskE_ok c
  have hk:=(ckD_ok hd).1.1
  rw [f20_eq,cK_nd,if_pos (by decide),f22_0,f22_0g,f23_0,f23_0g,f24_eq hk]
  generalize hu:dshE d ls oi ol=u
  refine R6_fl.trans ?_
  by_cases c2:u.2=0
  ·rw [if_pos c2,c2]
  ·rw [if_neg c2]
   have:u.1=(0,0):=by
    subst hu
    unfold dshE at *
    by_cases c3:(sharesE (askD d ls oi ol)).2=0
    ·rw [if_pos c3] at c2;exact absurd rfl c2
    ·rw [if_neg c3]
   rw [this]
 ·rw [if_neg c,if_neg c]
  show cK (_ != 0) _ _=_
  rw [cK_bne,if_neg c]
def ansE (d:Dm)(ls:List L5)(oi ol:Int):Int:=
 if (dshE d ls oi ol).2=0 then
  if w64 (d.lo*1048576)<=w64 ((dshE d ls oi ol).1.1*10000)/\w64 ((dshE d ls oi ol).1.2*10000)<=w64 (d.hi*1048576) then 2 else
  if w64 ((dshE d ls oi ol).1.2*10000) < w64 (d.lo*1048576) then 0 else if w64 (d.hi*1048576) < w64 ((dshE d ls oi ol).1.1*10000) then 0 else 1
 else 1
theorem J70_eq {a b c d:Int}{k:Bool->Option α}:J70_0_0 α a b c d k=k (decide (c<=a/\b<=d)):=by
 rw [J70_0_0,J70_0_0g]
 exact and_k
theorem f70_eq {d:Dm}(hs:0<=d.sh/\d.sh<=2){ls:List L5}{oi ol:Int}{k:Int->Option α} :
  f70_0 α (ls.map rL) oi ol d.sh d.pol d.ix d.lo d.hi d.w1 d.w2 d.s1 d.s2 k=k (ansE d ls oi ol):=by
 simp only [f70_0,f70_0g]
 rw [f24_eq hs]
 unfold ansE
 generalize dshE d ls oi ol=u
 simp only [J70_eq]
 rw [cK_bne,cK_dec,cK_dec,cK_dec]
 by_cases c:u.2=0
 ·rw [if_pos c,if_pos c]
  by_cases c1:w64 (d.lo*1048576)<=w64 (u.1.1*10000)/\w64 (u.1.2*10000)<=w64 (d.hi*1048576)
  ·rw [if_pos c1,if_pos c1]
  ·rw [if_neg c1,if_neg c1]
   by_cases c2:w64 (u.1.2*10000) < w64 (d.lo*1048576)
   ·rw [if_pos c2,if_pos c2]
   ·rw [if_neg c2,if_neg c2]
    by_cases c3:w64 (d.hi*1048576) < w64 (u.1.1*10000)
    ·rw [if_pos c3,if_pos c3]
    ·rw [if_neg c3,if_neg c3]
 ·rw [if_neg c,if_neg c]
theorem row_0 {f:Int->Option α}:rowK [[DC.v (.int .i64 0)]] 0 [.int .i64] f=f 0:=rfl
theorem len_0:((0:Int) == ((List.length [[DC.v (.int .i64 0)]]:Nat):Int))=false:=rfl
theorem len_63:decide (63 < ((List.length [[DC.v (.int .i64 0)]]:Nat):Int))=false:=rfl
theorem len_1:decide (1 < ((List.length [[DC.v (.int .i64 0)]]:Nat):Int))=false:=rfl
theorem f38_eq {d:Dm}(hs:0<=d.sh/\d.sh<=2){ls:List L5}{oi ol:Int}(h:ansE d ls oi ol=2){k:Int->Int->Int->Option α} :
  f38_1 α (ls.map rL) oi ol d.sh d.pol d.ix d.lo d.hi [[DC.v (.int .i64 0)]] 0 0 d.w1 d.w2 d.s1 d.s2 0 k=k 0 1 1:=by
 rw [f38_1,f38_1g,len_0,cK_false]
 refine row_0.trans ?_
 rw [f20_eq,cK_nd,if_pos (by decide),show ((0:Int) == 0)=true from rfl,cK_true,f70_eq hs,h,show ((2:Int) != 2)=false from rfl,cK_false,show w64 (0+1)=1 by decide]
theorem f14_eq {d:Dm}(hs:0<=d.sh/\d.sh<=2){ls:List L5}{oi ol:Int}(ht:tskE d [] ls oi ol=0)(h:ansE d ls oi ol=2){k:Int->Int->Option α} :
  f14_0 α [rD d] (ls.map rL) oi ol 0 [[DC.v (.int .i64 0)]] k=k 1 0:=by
 rw [f14_0,f14_0g,J14_0_0,J14_0_0g]
 refine (f19_eq (ds:=[]) (by decide)).trans ?_
 rw [if_pos ht,len_63,cK_false,f22_0,f22_0g,f38_eq hs h,show ((0:Int) == 20)=false from rfl,cK_false,show ((0:Int) != 0)=false from rfl,cK_false,len_1,cK_false]
end Go.AM.K
