/- The safe states behind one switch: the iterator. -/
import Derived.Test.YtmcplmhohldpjaaGreatAMc
import Derived.Test.YtmcplmhohldpjaaGreatRW
namespace Go.AM
open Go.Proofs
set_option maxRecDepth 100000
set_option maxHeartbeats 1000000
set_option linter.unusedSimpArgs false
theorem aew {P:Program}{E:Env}{T:Tab}{ρ:Operand->AV}{dst t:Nat}{o:Oper}{x:Nat}{b:Bool}(ho:o.op=.unOp .not t (.tmp x))(h:ρ (.tmp x)=.val false [.d (.v (.bool b))]) :
  eff P E T ρ dst (.pure o)=some (.val false [.d (.v (.bool !b))],[]):=by
 have h1:dj ρ (.tmp x)=some (.bool b):=by simp [dj,h,ee,gO]
 simp only [eff,cG,gj,ho,Op.operands,List.all_cons,List.all_nil,h1]
 simp [execOp,ho,h1,aA,ju,f0,plain,bind,Sem.bind,pure]
 rfl
theorem H0 {P:Program}{E:Env}{T:Tab}{ρ:Operand->AV}{dst t x ty:Nat}{d:Option Nat}{pos:String}{aft:Array Edge}{g:Option (Nat × Bool)}{b:Bool}(h:ρ (.tmp x)=.val false [.d (.v (.bool b))]) :
  eff P E T ρ dst (.pure { dst:=d,op:=.unOp .not t (.tmp x),type:=ty,pos:=pos,after:=aft,guard:=g })=some (.val false [.d (.v (.bool !b))],[]):=aew rfl h
section
variable {P:Program}{E:Env}{T:Tab}{ρ:Operand->AV}{dst:Nat}
theorem pP {x:Operand}:eff P E T ρ dst (.mv x)=some (ρ x,[]):=rfl
theorem jd {c a b:Operand}:eff P E T ρ dst (.pick c a b)=match iA (ρ c) with | some t=>some (if t then ρ a else ρ b,[]) | none=>none:=rfl
theorem JX {off:Nat}{x:Operand}:eff P E T ρ dst (.faddr off x)=match bO (ρ x) with
  | some (.ptr n o)=>some (.val false [.ptr n (o+off)],[])
  | some (.eptr n i o)=>some (.val false [.eptr n i (o+off)],[])
  | some (.d (.cref cs o))=>some (.val false [.d (.cref cs (o+off))],[])
  | _=>none:=rfl
theorem W3 {x:Operand}:eff P E T ρ dst (.len x)=match bO (ρ x) with
  | some (.psl l)=>some (.val false [.d (.v (.int .i64 l.length))],[])
  | _=>(iD T (ρ x)).map fun rows=>(.val false [.d (.v (.int .i64 rows.length))],[]):=rfl
theorem dC {f:Nat}{args:List Operand}(hio:E.io f=[]/\E.ptrs f=none):eff P E T ρ dst (.call f args)=match fD T ρ args with
  | some ds=>match E f ds with
   | some res=>cH dst T (args.flatMap fun x=>bi T (ρ x)) res
   | none=>none
  | none=>none:=by simp only [eff,hio.1,hio.2];rfl
theorem lQ {op:BinOp}{t:TypeId}{x y:Operand}:eff P E T ρ dst (.bin op t x y)=match ee (ρ x),ee (ρ y) with
  | some a,some b=>(match dh P op t x y a b with
   | some v=>some (ju v,[])
   | none=>(mc op (ρ x) (ρ y)).map fun c=>(.val false [c],[]))
  | _,_=>(vF P op t (ρ x) (ρ y)).map fun c=>(.val false [c],[]):=rfl
end
theorem S1 {E:Env}(hio1:E.io 155=[]/\E.ptrs 155=none)(hio2:E.io 152=[]/\E.ptrs 152=none){l:Nat}{devs:List (List DC)}{rules:List (List DC)}{s:Int}{xs:List (List Value)}(hlen:devs.length < 1000):∀ (m d i:Nat) (ys:List (List Value)),d+m=devs.length->mb E [.sl devs,.sl rules] s (List.range' d m)=some ys->xs.drop i=ys->i<=xs.length ->
  icL Tryz.prog E xs l [(1,.val false [.d (.cref [.sl devs,.sl rules] 0)]),(2,.val false [.d (.cref [.v (.int .i64 s)] 0)])] (some ⟨[0,1,2,9,10],true,[⟨false,10,0,20010,0⟩],[]⟩)
   (.seq (.region ke [] (some ⟨[0,1,2,9,10,11],false,[],[]⟩)) (.seq (.cond (.tmp 11) .skip (.exit 0)) (.seq (.block 1 (.seq (.region mn [] (some ⟨[0,1,2,4,9,10],false,[],[]⟩)) (.seq (.region mz [] (some ⟨[0,1,2,4,5,9,10],false,[],[]⟩)) (.seq (.region mE [] (some ⟨[0,1,2,9,10,25],false,[],[]⟩)) (.cond (.tmp 25) .ret .skip))))) (.region mK [] (some ⟨[0,1,2,9,10],false,[],[]⟩)))))
   (m+1) (.blk 0 .nil) (tA xs) (some i) ⟨[(0,.val false [.yld l]),(1,.val false [.d (.cref [.sl devs,.sl rules] 0)]),(2,.val false [.d (.cref [.v (.int .i64 s)] 0)]),(9,.val false [.d (.v (.int .i64 devs.length))]),(10,.val false [.d (.v (.int .i64 d))])],[],[]⟩:=by
 intro m
 induction m with
 | zero=>
  intro d i ys hd hgo hdrop hi
  have hcond:¬ ((d:Int) < (devs.length:Int)):=by omega
  simp -implicitDefEqProofs only [z8,js,dR,aj,reduceIte,Nat.reduceEqDiff,pE,g7,lf,p7,ke,qE,Option.isNone,eD,DT,CQ,lX,gC,evO,Option.getD,pP,jd,eff.eq_7,dC hio1,dC hio2,lQ,ee,gO,ln,hcond,decide_false,Option.map,ju,f0,plain,l7,bK,vz,aputs,mS,je,lK,iA,DK,D9,lq,ja,fA,jc,qe,tA,true_and]
  have hys:ys=[]:=by simpa [mb] using hgo.symm
  refine⟨.inr trivial,.inl ?_⟩
  rw [hys] at hdrop
  have:=List.drop_eq_nil_iff.1 hdrop
  congr 1
  omega
 | succ m ih=>
  intro d i ys hd hgo hdrop hi
  have hcond:(d:Int) < (devs.length:Int):=by omega
  rw [List.range'_succ] at hgo
  simp only [mb] at hgo
  split at hgo
  ·rename_i n h105
   split at hgo
   ·rename_i b h116
    split at hgo
    ·rename_i out hout
     cases b with
     | false=>
      rw [z8]
      simp -implicitDefEqProofs only [hcond,h105,h116,js,dR,aj,reduceIte,Nat.reduceEqDiff,pE,lH,g7,lf,p7,ke,mn,mz,mE,mK,qE,Option.isNone,eD,DT,CQ,lX,oo,gC,evO,Option.getD,pP,jd,eff.eq_7,dC hio1,dC hio2,lQ,ee,gO,ln,oT,decide_true,decide_false,Option.map,ju,f0,plain,l7,bK,lC,lr,qF,List.all,List.append,vz,aputs,mS,je,lm,lM,lL,gy,gu,lK,nG,tI,iA,DK,D9,lq,ja,fA,jc,qe,tA,true_and,Bool.and_self,bO,fD,wA,cP,List.mapM_cons,List.mapM_nil,pure_bind,bind_pure_comp,Option.pure_def,Option.bind_eq_bind,Option.bind,g8,List.drop,List.take,List.length,Nat.reduceAdd,Nat.reduceLeDiff,Option.map_some,gW,bi,aT,cH,List.isEmpty,aW,bp,bL,xE,List.append_nil,List.nil_append,Bool.not_true,Bool.not_false,dj,Bool.false_eq_true,List.map_cons,List.map_nil,List.drop_zero,List.take_zero,Nat.zero_add,Nat.le_refl,List.length_cons,List.length_nil,List.take_succ_cons,List.any_nil,Bool.if_true_left,if_true,if_false,List.mapM,List.mapM.loop,List.reverse_cons,List.reverse_nil,List.flatMap_cons,List.flatMap_nil,Nat.zero_le,decide_eq_true_eq,Option.isSome,List.flatten_cons,List.flatten_nil,List.any_cons,dk,gE,List.mapM_cons,List.cons_append,Bool.or_false,aQ,nk,Nat.add_zero,Nat.mul_zero]
      have:=ih (d+1) i ys (by omega) (by simpa [hgo] using hout.trans (by simpa using hgo)) hdrop hi
      rw [IntWalk.i64_in _ (by omega)]
      exact this
     | true=>
      have hx:xs[i]?=some [.int .i64 d,.int .i64 n]:=by
       have:(xs.drop i)[0]?=some [.int .i64 d,.int .i64 n]:=by rw [hdrop];simp at hgo;rw [<- hgo];rfl
       simpa using this
      have hi':i < xs.length:=(List.getElem?_eq_some_iff.1 hx).1
      rw [z8]
      simp -implicitDefEqProofs only [hcond,h105,h116,js,dR,aj,reduceIte,Nat.reduceEqDiff,pE,lH,g7,lf,p7,ke,mn,mz,mE,mK,qE,Option.isNone,eD,DT,CQ,lX,oo,gC,evO,Option.getD,pP,jd,eff.eq_7,dC hio1,dC hio2,lQ,ee,gO,ln,oT,decide_true,decide_false,Option.map,ju,f0,plain,l7,bK,lC,lr,qF,List.all,List.append,vz,aputs,mS,je,lm,lM,lL,gy,gu,lK,nG,tI,iA,DK,D9,lq,ja,fA,jc,qe,tA,true_and,Bool.and_self,bO,fD,wA,cP,List.mapM_cons,List.mapM_nil,pure_bind,bind_pure_comp,Option.pure_def,Option.bind_eq_bind,Option.bind,g8,List.drop,List.take,List.length,Nat.reduceAdd,Nat.reduceLeDiff,Option.map_some,gW,bi,aT,cH,List.isEmpty,aW,bp,bL,xE,List.append_nil,List.nil_append,Bool.not_true,Bool.not_false,dj,Bool.false_eq_true,List.map_cons,List.map_nil,List.drop_zero,List.take_zero,Nat.zero_add,Nat.le_refl,List.length_cons,List.length_nil,List.take_succ_cons,List.any_nil,Bool.if_true_left,if_true,if_false,List.mapM,List.mapM.loop,List.reverse_cons,List.reverse_nil,List.flatMap_cons,List.flatMap_nil,Nat.zero_le,decide_eq_true_eq,Option.isSome,List.flatten_cons,List.flatten_nil,List.any_cons,dk,gE,List.mapM_cons,List.cons_append,Bool.or_false,aQ,nk,Nat.add_zero,Nat.mul_zero]
      refine⟨⟨_,hx,rfl⟩,?_,?_⟩
      ·rw [H0 (b:=true) rfl]
       have hys:out=(xs.drop (i+1)):=by
        simp only [if_true,Option.some.injEq] at hgo
        rw [<- List.drop_drop,hdrop,<- hgo];rfl
       have h1:=ih (d+1) (i+1) out (by omega) hout hys.symm (by omega)
       rw [show ((d+1:Nat):Int)=IntKind.wrap .i64 ((d:Int)+1) by rw [IntWalk.i64_in _ (by omega)];rfl] at h1
       simp -implicitDefEqProofs only [js,dR,aj,reduceIte,Nat.reduceEqDiff,pE,lH,g7,lf,p7,ke,mn,mz,mE,mK,qE,Option.isNone,eD,DT,CQ,lX,oo,gC,evO,Option.getD,pP,jd,eff.eq_7,dC hio1,dC hio2,lQ,ee,gO,ln,oT,decide_true,decide_false,Option.map,ju,f0,plain,l7,bK,lC,lr,qF,List.all,List.append,vz,aputs,mS,je,lm,lM,lL,gy,gu,lK,nG,tI,iA,DK,D9,lq,ja,fA,jc,qe,tA,true_and,Bool.and_self,bO,fD,wA,cP,List.mapM_cons,List.mapM_nil,pure_bind,bind_pure_comp,Option.pure_def,Option.bind_eq_bind,Option.bind,g8,List.drop,List.take,List.length,Nat.reduceAdd,Nat.reduceLeDiff,Option.map_some,gW,bi,aT,cH,List.isEmpty,aW,bp,bL,xE,List.append_nil,List.nil_append,Bool.not_true,Bool.not_false,dj,Bool.false_eq_true,List.map_cons,List.map_nil,List.drop_zero,List.take_zero,Nat.zero_add,Nat.le_refl,List.length_cons,List.length_nil,List.take_succ_cons,List.any_nil,Bool.if_true_left,if_true,if_false,List.mapM,List.mapM.loop,List.reverse_cons,List.reverse_nil,List.flatMap_cons,List.flatMap_nil,Nat.zero_le,decide_eq_true_eq,Option.isSome,List.flatten_cons,List.flatten_nil,List.any_cons,dk,gE,List.mapM_cons,List.cons_append,Bool.or_false,aQ,nk,Nat.add_zero,Nat.mul_zero]
       exact h1
      ·rw [H0 (b:=false) rfl]
       simp -implicitDefEqProofs only [js,dR,aj,reduceIte,Nat.reduceEqDiff,pE,lH,g7,lf,p7,ke,mn,mz,mE,mK,qE,Option.isNone,eD,DT,CQ,lX,oo,gC,evO,Option.getD,pP,jd,eff.eq_7,dC hio1,dC hio2,lQ,ee,gO,ln,oT,decide_true,decide_false,Option.map,ju,f0,plain,l7,bK,lC,lr,qF,List.all,List.append,vz,aputs,mS,je,lm,lM,lL,gy,gu,lK,nG,tI,iA,DK,D9,lq,ja,fA,jc,qe,tA,true_and,Bool.and_self,bO,fD,wA,cP,List.mapM_cons,List.mapM_nil,pure_bind,bind_pure_comp,Option.pure_def,Option.bind_eq_bind,Option.bind,g8,List.drop,List.take,List.length,Nat.reduceAdd,Nat.reduceLeDiff,Option.map_some,gW,bi,aT,cH,List.isEmpty,aW,bp,bL,xE,List.append_nil,List.nil_append,Bool.not_true,Bool.not_false,dj,Bool.false_eq_true,List.map_cons,List.map_nil,List.drop_zero,List.take_zero,Nat.zero_add,Nat.le_refl,List.length_cons,List.length_nil,List.take_succ_cons,List.any_nil,Bool.if_true_left,if_true,if_false,List.mapM,List.mapM.loop,List.reverse_cons,List.reverse_nil,List.flatMap_cons,List.flatMap_nil,Nat.zero_le,decide_eq_true_eq,Option.isSome,List.flatten_cons,List.flatten_nil,List.any_cons,dk,gE,List.mapM_cons,List.cons_append,Bool.or_false,aQ,nk,Nat.add_zero,Nat.mul_zero]
       simp
    ·cases hgo
   ·cases hgo
  ·cases hgo
theorem uF {E:Env}{cs:List DC}{s:Int}:∀ (l:List Nat) (xs:List (List Value)),mb E cs s l=some xs->∀ x ∈ xs,∀ v ∈ x,vE v=true
 | [],xs,h=>by simp only [mb,Option.some.injEq] at h;subst h;simp
 | d::r,xs,h=>by
  simp only [mb] at h
  split at h
  ·rename_i n h105
   split at h
   ·rename_i b h116
    split at h
    ·rename_i out hout
     have ih:=uF r out hout
     simp only [Option.some.injEq] at h
     subst h
     cases b with
     | false=>exact ih
     | true=>
      intro x hx v hv
      rcases List.mem_cons.1 hx with h1 | h1
      ·subst h1
       rcases List.mem_cons.1 hv with h2 | h2
       ·subst h2;rfl
       ·simp only [List.mem_singleton] at h2;subst h2;rfl
      ·exact ih x h1 v hv
    ·cases h
   ·cases h
  ·cases h
theorem RZ {E:Env}(hE:dp Tryz.prog E)(hio1:E.io 155=[]/\E.ptrs 155=none)(hio2:E.io 152=[]/\E.ptrs 152=none){devs rules:List (List DC)}{s:Int}{xs:List (List Value)}(hlen:devs.length < 1000)
  (h:mb E [.sl devs,.sl rules] s (List.range' 0 devs.length)=some xs):kH Tryz.prog 154 [.cref [.sl devs,.sl rules] 0,.cref [.v (.int .i64 s)] 0] xs/\eZ Tryz.prog 154:=by
 obtain⟨fn,h1,h2,h3,h4,h5⟩:=ahx
 cases hb:fn.body with
 | none=>rw [hb] at h3;cases h3
 | some c=>
  rw [hb] at h3
  have hfn:fn=Tryz.f154:=by
   have:=h1.symm.trans Tryz.func154
   simpa using this
  refine⟨Tn hE h1 hb (by rw [hfn];rfl) ?_ (by rw [h2];exact h3) (by rw [h2];simp) (uF _ _ h) fun l=>?_,⟨fn,h1,by rw [hb];rfl,h5⟩⟩
  ·have:(Tryz.f154.body.map kG)=some true:=by kernel_rfl
   rw [<- hfn,hb] at this
   simpa using this
  ·apply an6
   simp -implicitDefEqProofs only [abk,PH,Ia,JX,W3,iD,js,dR,aj,reduceIte,Nat.reduceEqDiff,pE,lH,g7,lf,p7,ke,mn,mz,mE,mK,qE,Option.isNone,eD,DT,CQ,lX,oo,gC,evO,Option.getD,pP,jd,eff.eq_7,dC hio1,dC hio2,lQ,ee,gO,ln,oT,decide_true,decide_false,Option.map,ju,f0,plain,l7,bK,lC,lr,qF,List.all,List.append,vz,aputs,mS,je,lm,lM,lL,gy,gu,lK,nG,tI,iA,DK,D9,lq,ja,fA,jc,qe,tA,true_and,Bool.and_self,bO,fD,wA,cP,List.mapM_cons,List.mapM_nil,pure_bind,bind_pure_comp,Option.pure_def,Option.bind_eq_bind,Option.bind,g8,List.drop,List.take,List.length,Nat.reduceAdd,Nat.reduceLeDiff,Option.map_some,gW,bi,aT,cH,List.isEmpty,aW,bp,bL,xE,List.append_nil,List.nil_append,Bool.not_true,Bool.not_false,dj,Bool.false_eq_true,List.map_cons,List.map_nil,List.drop_zero,List.take_zero,Nat.zero_add,Nat.le_refl,List.length_cons,List.length_nil,List.take_succ_cons,List.any_nil,Bool.if_true_left,if_true,if_false,List.mapM,List.mapM.loop,List.reverse_cons,List.reverse_nil,List.flatMap_cons,List.flatMap_nil,Nat.zero_le,decide_eq_true_eq,Option.isSome,List.flatten_cons,List.flatten_nil,List.any_cons,dk,gE,List.mapM_cons,List.cons_append,Bool.or_false,aQ,nk,Nat.add_zero,Nat.mul_zero]
   refine⟨devs.length+1,?_⟩
   exact S1 hio1 hio2 hlen devs.length 0 0 xs (by omega) h rfl (Nat.zero_le _)
theorem afB (E:Env)(hE:dp Tryz.prog E)(f:Nat)(caps:List DC)(xs:List (List Value))(h:BV E f caps=some xs):kH Tryz.prog f caps xs/\eZ Tryz.prog f:=by
 unfold BV at h
 split at h
 ·rename_i hf
  subst hf
  split at h
  ·rename_i hio
   obtain⟨hio1,hio2⟩:=hio
   split at h
   ·rename_i devs rules s
    split at h
    ·rename_i hlen
     exact RZ hE hio1 hio2 hlen h
    ·cases h
   ·cases h
  ·cases h
 ·cases h
end Go.AM
