/- The safe states behind one switch: the iterator. -/
import Derived.Test.YtffcelhcekillaaGreatAMc
import Derived.Test.YtffcelhcekillaaGreatRW
namespace Go.AM
open Go.Proofs
set_option maxRecDepth 100000
set_option maxHeartbeats 1000000
set_option linter.unusedSimpArgs false
theorem am5 {P:Program}{E:Env}{T:Tab}{ρ:Operand->AV}{dst t:Nat}{o:Oper}{x:Nat}{b:Bool}(ho:o.op=.unOp .not t (.tmp x))(h:ρ (.tmp x)=.val false [.d (.v (.bool b))]) :
  eff P E T ρ dst (.pure o)=some (.val false [.d (.v (.bool !b))],[]):=by
 have h1:dC ρ (.tmp x)=some (.bool b):=by simp [dC,h,ff,g6]
 simp only [eff,dp,ho,Op.operands,List.all_cons,List.all_nil,h1];simp [execOp,ho,h1,aH,jp,gi,plain,bind,Sem.bind,pure];rfl
theorem MH {P:Program}{E:Env}{T:Tab}{ρ:Operand->AV}{dst t x ty:Nat}{d:Option Nat}{pos:String}{aft:Array Edge}{g:Option (Nat × Bool)}{b:Bool}(h:ρ (.tmp x)=.val false [.d (.v (.bool b))]) :
  eff P E T ρ dst (.pure { dst:=d,op:=.unOp .not t (.tmp x),type:=ty,pos:=pos,after:=aft,guard:=g })=some (.val false [.d (.v (.bool !b))],[]):=am5 rfl h
section
variable {P:Program}{E:Env}{T:Tab}{ρ:Operand->AV}{dst:Nat}
theorem qD {x:Operand}:eff P E T ρ dst (.mv x)=some (ρ x,[]):=rfl
theorem ja {c a b:Operand}:eff P E T ρ dst (.pick c a b)=match ik (ρ c) with | some t=>some (if t then ρ a else ρ b,[]) | none=>none:=rfl
theorem PJ {off:Nat}{x:Operand}:eff P E T ρ dst (.faddr off x)=match de (ρ x) with
  | some (.ptr n o)=>some (.val false [.ptr n (o+off)],[])
  | some (.eptr n i o)=>some (.val false [.eptr n i (o+off)],[])
  | some (.d (.cref cs o))=>some (.val false [.d (.cref cs (o+off))],[])
  | _=>none:=rfl
theorem ahp {x:Operand}:eff P E T ρ dst (.len x)=(jK T (ρ x)).map fun rows=>(.val false [.d (.v (.int .i64 rows.length))],[]):=rfl
theorem dK {f:Nat}{args:List Operand}(hio:E.io f=[]):eff P E T ρ dst (.call f args)=match fy T ρ args with
  | some ds=>match E f ds with
   | some res=>cH dst T (args.flatMap fun x=>bA T (ρ x)) res
   | none=>none
  | none=>none:=by simp only [eff,hio];rfl
theorem lS {op:BinOp}{t:TypeId}{x y:Operand}:eff P E T ρ dst (.bin op t x y)=match ff (ρ x),ff (ρ y) with
  | some a,some b=>(match di P op t x y a b with
   | some v=>some (jp v,[])
   | none=>(mE op (ρ x) (ρ y)).map fun c=>(.val false [c],[]))
  | _,_=>(xX P op t (ρ x) (ρ y)).map fun c=>(.val false [c],[]):=rfl
end
theorem ZX {E:Env}(hio1:E.io 90=[])(hio2:E.io 87=[]){l:Nat}{devs:List (List DC)}{rules:List (List DC)}{s:Int}{xs:List (List Value)}(hlen:devs.length < 1000):∀ (m d i:Nat) (ys:List (List Value)),d+m=devs.length->mZ E [.sl devs,.sl rules] s (List.range' d m)=some ys->xs.drop i=ys->i<=xs.length ->
  icL Tryz.prog E xs l [(1,.val false [.d (.cref [.sl devs,.sl rules] 0)]),(2,.val false [.d (.cref [.v (.int .i64 s)] 0)])] (some ⟨[0,1,2,9,10],true,[⟨false,10,0,20010,0⟩],[]⟩)
   (.seq (.region nR [] (some ⟨[0,1,2,9,10,11],false,[],[]⟩)) (.seq (.cond (.tmp 11) .skip (.exit 0)) (.seq (.block 1 (.seq (.region sn [] (some ⟨[0,1,2,4,9,10],false,[],[]⟩)) (.seq (.region sB [] (some ⟨[0,1,2,4,5,9,10],false,[],[]⟩)) (.seq (.region r7 [] (some ⟨[0,1,2,9,10,25],false,[],[]⟩)) (.cond (.tmp 25) .ret .skip))))) (.region sA [] (some ⟨[0,1,2,9,10],false,[],[]⟩)))))
   (m+1) (.blk 0 .nil) (uU xs) (some i) ⟨[(0,.val false [.yld l]),(1,.val false [.d (.cref [.sl devs,.sl rules] 0)]),(2,.val false [.d (.cref [.v (.int .i64 s)] 0)]),(9,.val false [.d (.v (.int .i64 devs.length))]),(10,.val false [.d (.v (.int .i64 d))])],[],[]⟩:=by
 intro m
 induction m with
 | zero=>
  intro d i ys hd hgo hdrop hi;have hcond:¬ ((d:Int) < (devs.length:Int)):=by omega
  simp -implicitDefEqProofs only [D1,jJ,dY,an,reduceIte,Nat.reduceEqDiff,qU,hI,lW,q8,nR,rm,Option.isNone,ew,Hn,Gs,lf,gA,evO,Option.getD,qD,ja,eff.eq_7,dK hio1,dK hio2,lS,ff,g6,lV,hcond,decide_false,Option.map,jp,gi,plain,mm,bN,xm,aputs,np,jb,lv,ik,Fo,Gf,lq,i8,fq,jg,qK,uU,true_and];have hys:ys=[]:=by simpa [mZ] using hgo.symm
  refine⟨.inr trivial,.inl ?_⟩;rw [hys] at hdrop;have:=List.drop_eq_nil_iff.1 hdrop;congr 1;omega
 | succ m ih=>
  intro d i ys hd hgo hdrop hi;have hcond:(d:Int) < (devs.length:Int):=by omega
  rw [List.range'_succ] at hgo;simp only [mZ] at hgo;split at hgo
  ·rename_i n h105
   split at hgo
   ·rename_i b h116
    split at hgo
    ·rename_i out hout
     cases b with
     | false=>
      rw [D1];simp -implicitDefEqProofs only [hcond,h105,h116,jJ,dY,an,reduceIte,Nat.reduceEqDiff,qU,lQ,hI,lW,q8,nR,sn,sB,r7,sA,rm,Option.isNone,ew,Hn,Gs,lf,nQ,gA,evO,Option.getD,qD,ja,eff.eq_7,dK hio1,dK hio2,lS,ff,g6,lV,pG,decide_true,decide_false,Option.map,jp,gi,plain,mm,bN,ma,lp,rq,List.all,List.append,xm,aputs,np,jb,lh,lg,lT,gR,gX,lv,nI,uY,ik,Fo,Gf,lq,i8,fq,jg,qK,uU,true_and,Bool.and_self,de,fy,yI,dt,List.mapM_cons,List.mapM_nil,pure_bind,bind_pure_comp,Option.pure_def,Option.bind_eq_bind,Option.bind,iC,List.drop,List.take,List.length,Nat.reduceAdd,Nat.reduceLeDiff,Option.map_some,g9,bA,bq,cH,List.isEmpty,bc,bw,bS,zy,List.append_nil,List.nil_append,Bool.not_true,Bool.not_false,dC,Bool.false_eq_true,List.map_cons,List.map_nil,List.drop_zero,List.take_zero,Nat.zero_add,Nat.le_refl,List.length_cons,List.length_nil,List.take_succ_cons,List.any_nil,Bool.if_true_left,if_true,if_false,List.mapM,List.mapM.loop,List.reverse_cons,List.reverse_nil,List.flatMap_cons,List.flatMap_nil,Nat.zero_le,decide_eq_true_eq,Option.isSome,List.flatten_cons,List.flatten_nil,List.any_cons,dz,im,List.mapM_cons,List.cons_append,Bool.or_false,aS,pz,Nat.add_zero,Nat.mul_zero];have:=ih (d+1) i ys (by omega) (by simpa [hgo] using hout.trans (by simpa using hgo)) hdrop hi;rw [IntWalk.i64_in _ (by omega)];exact this
     | true=>
      have hx:xs[i]?=some [.int .i64 d,.int .i64 n]:=by
       have:(xs.drop i)[0]?=some [.int .i64 d,.int .i64 n]:=by rw [hdrop];simp at hgo;rw [<- hgo];rfl
       simpa using this
      have hi':i < xs.length:=(List.getElem?_eq_some_iff.1 hx).1;rw [D1];simp -implicitDefEqProofs only [hcond,h105,h116,jJ,dY,an,reduceIte,Nat.reduceEqDiff,qU,lQ,hI,lW,q8,nR,sn,sB,r7,sA,rm,Option.isNone,ew,Hn,Gs,lf,nQ,gA,evO,Option.getD,qD,ja,eff.eq_7,dK hio1,dK hio2,lS,ff,g6,lV,pG,decide_true,decide_false,Option.map,jp,gi,plain,mm,bN,ma,lp,rq,List.all,List.append,xm,aputs,np,jb,lh,lg,lT,gR,gX,lv,nI,uY,ik,Fo,Gf,lq,i8,fq,jg,qK,uU,true_and,Bool.and_self,de,fy,yI,dt,List.mapM_cons,List.mapM_nil,pure_bind,bind_pure_comp,Option.pure_def,Option.bind_eq_bind,Option.bind,iC,List.drop,List.take,List.length,Nat.reduceAdd,Nat.reduceLeDiff,Option.map_some,g9,bA,bq,cH,List.isEmpty,bc,bw,bS,zy,List.append_nil,List.nil_append,Bool.not_true,Bool.not_false,dC,Bool.false_eq_true,List.map_cons,List.map_nil,List.drop_zero,List.take_zero,Nat.zero_add,Nat.le_refl,List.length_cons,List.length_nil,List.take_succ_cons,List.any_nil,Bool.if_true_left,if_true,if_false,List.mapM,List.mapM.loop,List.reverse_cons,List.reverse_nil,List.flatMap_cons,List.flatMap_nil,Nat.zero_le,decide_eq_true_eq,Option.isSome,List.flatten_cons,List.flatten_nil,List.any_cons,dz,im,List.mapM_cons,List.cons_append,Bool.or_false,aS,pz,Nat.add_zero,Nat.mul_zero];refine⟨⟨_,hx,rfl⟩,?_,?_⟩
      ·rw [MH (b:=true) rfl]
       have hys:out=(xs.drop (i+1)):=by
        simp only [if_true,zaI] at hgo;rw [<- List.drop_drop,hdrop,<- hgo];rfl
       have h1:=ih (d+1) (i+1) out (by omega) hout hys.symm (by omega);rw [show ((d+1:Nat):Int)=IntKind.wrap .i64 ((d:Int)+1) by rw [IntWalk.i64_in _ (by omega)];rfl] at h1;simp -implicitDefEqProofs only [jJ,dY,an,reduceIte,Nat.reduceEqDiff,qU,lQ,hI,lW,q8,nR,sn,sB,r7,sA,rm,Option.isNone,ew,Hn,Gs,lf,nQ,gA,evO,Option.getD,qD,ja,eff.eq_7,dK hio1,dK hio2,lS,ff,g6,lV,pG,decide_true,decide_false,Option.map,jp,gi,plain,mm,bN,ma,lp,rq,List.all,List.append,xm,aputs,np,jb,lh,lg,lT,gR,gX,lv,nI,uY,ik,Fo,Gf,lq,i8,fq,jg,qK,uU,true_and,Bool.and_self,de,fy,yI,dt,List.mapM_cons,List.mapM_nil,pure_bind,bind_pure_comp,Option.pure_def,Option.bind_eq_bind,Option.bind,iC,List.drop,List.take,List.length,Nat.reduceAdd,Nat.reduceLeDiff,Option.map_some,g9,bA,bq,cH,List.isEmpty,bc,bw,bS,zy,List.append_nil,List.nil_append,Bool.not_true,Bool.not_false,dC,Bool.false_eq_true,List.map_cons,List.map_nil,List.drop_zero,List.take_zero,Nat.zero_add,Nat.le_refl,List.length_cons,List.length_nil,List.take_succ_cons,List.any_nil,Bool.if_true_left,if_true,if_false,List.mapM,List.mapM.loop,List.reverse_cons,List.reverse_nil,List.flatMap_cons,List.flatMap_nil,Nat.zero_le,decide_eq_true_eq,Option.isSome,List.flatten_cons,List.flatten_nil,List.any_cons,dz,im,List.mapM_cons,List.cons_append,Bool.or_false,aS,pz,Nat.add_zero,Nat.mul_zero];exact h1
      ·rw [MH (b:=false) rfl]
       simp -implicitDefEqProofs only [jJ,dY,an,reduceIte,Nat.reduceEqDiff,qU,lQ,hI,lW,q8,nR,sn,sB,r7,sA,rm,Option.isNone,ew,Hn,Gs,lf,nQ,gA,evO,Option.getD,qD,ja,eff.eq_7,dK hio1,dK hio2,lS,ff,g6,lV,pG,decide_true,decide_false,Option.map,jp,gi,plain,mm,bN,ma,lp,rq,List.all,List.append,xm,aputs,np,jb,lh,lg,lT,gR,gX,lv,nI,uY,ik,Fo,Gf,lq,i8,fq,jg,qK,uU,true_and,Bool.and_self,de,fy,yI,dt,List.mapM_cons,List.mapM_nil,pure_bind,bind_pure_comp,Option.pure_def,Option.bind_eq_bind,Option.bind,iC,List.drop,List.take,List.length,Nat.reduceAdd,Nat.reduceLeDiff,Option.map_some,g9,bA,bq,cH,List.isEmpty,bc,bw,bS,zy,List.append_nil,List.nil_append,Bool.not_true,Bool.not_false,dC,Bool.false_eq_true,List.map_cons,List.map_nil,List.drop_zero,List.take_zero,Nat.zero_add,Nat.le_refl,List.length_cons,List.length_nil,List.take_succ_cons,List.any_nil,Bool.if_true_left,if_true,if_false,List.mapM,List.mapM.loop,List.reverse_cons,List.reverse_nil,List.flatMap_cons,List.flatMap_nil,Nat.zero_le,decide_eq_true_eq,Option.isSome,List.flatten_cons,List.flatten_nil,List.any_cons,dz,im,List.mapM_cons,List.cons_append,Bool.or_false,aS,pz,Nat.add_zero,Nat.mul_zero];simp
    ·cases hgo
   ·cases hgo
  ·cases hgo
theorem tk {E:Env}{cs:List DC}{s:Int}:∀ (l:List Nat) (xs:List (List Value)),mZ E cs s l=some xs->∀ x ∈ xs,∀ v ∈ x,JW v=true
 | [],xs,h=>by simp only [mZ,zaI] at h;subst h;simp
 | d::r,xs,h=>by
  simp only [mZ] at h;split at h
  ·rename_i n h105
   split at h
   ·rename_i b h116
    split at h
    ·rename_i out hout
     have ih:=tk r out hout;simp only [zaI] at h;subst h;cases b with
     | false=>exact ih
     | true=>
      intro x hx v hv;rcases List.mem_cons.1 hx with h1 | h1
      ·subst h1
       rcases List.mem_cons.1 hv with h2 | h2
       ·subst h2;rfl
       ·simp only [List.mem_singleton] at h2;subst h2;rfl
      ·exact ih x h1 v hv
    ·cases h
   ·cases h
  ·cases h
theorem aaP {E:Env}(hE:dy Tryz.prog E)(hio1:E.io 90=[])(hio2:E.io 87=[]){devs rules:List (List DC)}{s:Int}{xs:List (List Value)}(hlen:devs.length < 1000)
  (h:mZ E [.sl devs,.sl rules] s (List.range' 0 devs.length)=some xs):ow Tryz.prog 89 [.cref [.sl devs,.sl rules] 0,.cref [.v (.int .i64 s)] 0] xs/\ge Tryz.prog 89:=by
 obtain⟨fn,h1,h2,h3,h4,h5⟩:=aCI;cases hb:fn.body with
 | none=>rw [hb] at h3;cases h3
 | some c=>
  rw [hb] at h3;have hfn:fn=Tryz.f89:=by
   have:=h1.symm.trans Tryz.func89;simpa using this
  refine⟨ZN hE h1 hb (by rw [hfn];rfl) ?_ (by rw [h2];exact h3) (by rw [h2];simp) (tk _ _ h) fun l=>?_,⟨fn,h1,by rw [hb];rfl,h5⟩⟩
  ·have:(Tryz.f89.body.map lc)=some true:=by kernel_rfl
   rw [<- hfn,hb] at this;simpa using this
  ·apply aG3
   simp -implicitDefEqProofs only [awp,ag7,Ll,PJ,ahp,jK,jJ,dY,an,reduceIte,Nat.reduceEqDiff,qU,lQ,hI,lW,q8,nR,sn,sB,r7,sA,rm,Option.isNone,ew,Hn,Gs,lf,nQ,gA,evO,Option.getD,qD,ja,eff.eq_7,dK hio1,dK hio2,lS,ff,g6,lV,pG,decide_true,decide_false,Option.map,jp,gi,plain,mm,bN,ma,lp,rq,List.all,List.append,xm,aputs,np,jb,lh,lg,lT,gR,gX,lv,nI,uY,ik,Fo,Gf,lq,i8,fq,jg,qK,uU,true_and,Bool.and_self,de,fy,yI,dt,List.mapM_cons,List.mapM_nil,pure_bind,bind_pure_comp,Option.pure_def,Option.bind_eq_bind,Option.bind,iC,List.drop,List.take,List.length,Nat.reduceAdd,Nat.reduceLeDiff,Option.map_some,g9,bA,bq,cH,List.isEmpty,bc,bw,bS,zy,List.append_nil,List.nil_append,Bool.not_true,Bool.not_false,dC,Bool.false_eq_true,List.map_cons,List.map_nil,List.drop_zero,List.take_zero,Nat.zero_add,Nat.le_refl,List.length_cons,List.length_nil,List.take_succ_cons,List.any_nil,Bool.if_true_left,if_true,if_false,List.mapM,List.mapM.loop,List.reverse_cons,List.reverse_nil,List.flatMap_cons,List.flatMap_nil,Nat.zero_le,decide_eq_true_eq,Option.isSome,List.flatten_cons,List.flatten_nil,List.any_cons,dz,im,List.mapM_cons,List.cons_append,Bool.or_false,aS,pz,Nat.add_zero,Nat.mul_zero];refine⟨devs.length+1,?_⟩;exact ZX hio1 hio2 hlen devs.length 0 0 xs (by omega) h rfl (Nat.zero_le _)
theorem atR (E:Env)(hE:dy Tryz.prog E)(f:Nat)(caps:List DC)(xs:List (List Value))(h:Dv E f caps=some xs):ow Tryz.prog f caps xs/\ge Tryz.prog f:=by
 unfold Dv at h;split at h
 ·rename_i hf
  subst hf;split at h
  ·rename_i hio
   obtain⟨hio1,hio2⟩:=hio;split at h
   ·rename_i devs rules s
    split at h
    ·rename_i hlen
     exact aaP hE hio1 hio2 hlen h
    ·cases h
   ·cases h
  ·cases h
 ·cases h
end Go.AM
