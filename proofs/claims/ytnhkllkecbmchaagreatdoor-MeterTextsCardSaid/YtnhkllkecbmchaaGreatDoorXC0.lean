/- The cosines of the parts of half a turn: the iterator. -/
import Derived.Test.YtnhkllkecbmchaaGreatDoorAMc
import Derived.Test.YtnhkllkecbmchaaGreatDoorKMa
import Derived.Test.YtnhkllkecbmchaaGreatDoorProg
namespace Go.AM
open Go.Proofs
set_option maxRecDepth 100000
set_option maxHeartbeats 1000000
set_option linter.unusedSimpArgs false
set_option linter.unusedVariables false
def ac170_0:List AOper:=[
 ⟨(some 7),(.mv (.const (.int .i64 0))),none⟩]
def ac170_1:List AOper:=[
 ⟨(some 8),(.bin .lss 3 (.tmp 7) (.const (.int .i64 1025))),none⟩]
def ac170_2:List AOper:=[
 ⟨(some 9),(.mv (.tmp 7)),none⟩,
 ⟨(some 2),(.mv (.tmp 9)),none⟩]
def ac170_3:List AOper:=[
 ⟨(some 11),(.mv (.tmp 2)),none⟩,
 ⟨(some 12),(.call 241 [(.tmp 11),(.const (.int .i64 2048))]),none⟩,
 ⟨(some 10),(.mv (.tmp 12)),none⟩,
 ⟨(some 13),(.extract 0 (.tmp 10)),none⟩,
 ⟨(some 14),(.extract 1 (.tmp 10)),none⟩,
 ⟨(some 3),(.alloc [(.d (.v (.complex Go.FloatKind.f64 0 0))),(.d (.v (.int .i64 0)))]),none⟩,
 ⟨none,(.store 2 (.tmp 3) (.tmp 13)),none⟩,
 ⟨(some 4),(.mv (.tmp 14)),none⟩]
def ac170_4:List AOper:=[
 ⟨(some 16),(.load true 2 (.tmp 3)),none⟩,
 ⟨(some 17),(.call 242 [(.tmp 16)]),none⟩,
 ⟨(some 15),(.mv (.tmp 17)),none⟩,
 ⟨(some 18),(.extract 0 (.tmp 15)),none⟩,
 ⟨(some 19),(.extract 1 (.tmp 15)),none⟩,
 ⟨(some 5),(.alloc [(.d (.v (.int .i64 0))),(.d (.v (.int .i64 0))),(.d (.v (.int .i64 0))),(.d (.v (.int .i64 0)))]),none⟩,
 ⟨none,(.store 4 (.tmp 5) (.tmp 18)),none⟩,
 ⟨(some 6),(.mv (.tmp 19)),none⟩]
def ac170_5:List AOper:=[
 ⟨(some 20),(.mv (.tmp 0)),none⟩,
 ⟨(some 21),(.mv (.tmp 2)),none⟩,
 ⟨(some 22),(.iaddr 2 (some 2) (.tmp 5) (.const (.int .i64 0))),none⟩,
 ⟨(some 23),(.load true 2 (.tmp 22)),none⟩,
 ⟨(some 24),(.calld (.tmp 20) [(.tmp 21),(.tmp 23)]),none⟩,
 ⟨(some 25),(.pure (oB (.unOp .not 4 (.tmp 24)) 4)),none⟩]
def ac170_6:List AOper:=[
 ⟨(some 26),(.bin .add 3 (.tmp 7) (.const (.int .i64 1))),none⟩,
 ⟨(some 7),(.mv (.tmp 26)),none⟩]
def tr170:List (Nat × Tidy):=[(0,⟨[0,7],false,[],[]⟩),(1,⟨[0,7,8],false,[],[]⟩),(2,⟨[0,2,7],false,[],[]⟩),(3,⟨[0,2,3,7],false,[],[]⟩),(4,⟨[0,2,5,7],false,[],[]⟩),(5,⟨[0,7,25],false,[],[]⟩),(6,⟨[0,7],false,[],[]⟩)]
def tl170:List (Nat × Tidy):=[(1,⟨[0,7],true,[⟨false,7,0,20007,0⟩],[]⟩)]
def ac170:ACode:=(.seq (.region ac170_0 [] (some ⟨[0,7],false,[],[]⟩)) (.block 0 (.loop (some ⟨[0,7],true,[⟨false,7,0,20007,0⟩],[]⟩) (.seq (.region ac170_1 [] (some ⟨[0,7,8],false,[],[]⟩)) (.seq (.cond (.tmp 8) .skip (.exit 0)) (.seq (.block 1 (.seq (.region ac170_2 [] (some ⟨[0,2,7],false,[],[]⟩)) (.seq (.region ac170_3 [] (some ⟨[0,2,3,7],false,[],[]⟩)) (.seq (.region ac170_4 [] (some ⟨[0,2,5,7],false,[],[]⟩)) (.seq (.region ac170_5 [] (some ⟨[0,7,25],false,[],[]⟩)) (.cond (.tmp 25) .ret .skip)))))) (.region ac170_6 [] (some ⟨[0,7],false,[],[]⟩))))))))
def rs170:List AResV:=[]
theorem is170:FnIs Tryz.prog 170 27 tr170 tl170 ac170 rs170:=⟨Tryz.f170,Tryz.func170,rfl,by kernel_rfl,by kernel_rfl,by kernel_rfl⟩
def cosGo (E:Env):List Nat->Option (List (List Value))
 | []=>some []
 | k::r=>match E 241 [(false,[.v (.int .i64 k)]),(false,[.v (.int .i64 2048)])] with
  | some [(true,[.d (.v (.complex .f64 a b)),.d (.v (.int .i64 c))]),(false,[.d (.v (.int .i64 e))])]=>match E 242 [(true,[.v (.complex .f64 a b),.v (.int .i64 c)])] with
   | some [(true,[.d (.v (.int .i64 lo)),.d (.v (.int .i64 hi)),.d (.v (.int .i64 x)),.d (.v (.int .i64 y))]),(false,[.d (.v (.int .i64 f))])]=>match cosGo E r with
    | some out=>some ([.int .i64 k,.agg #[.int .i64 lo,.int .i64 hi]]::out)
    | none=>none
   | _=>none
  | _=>none
def cosSq (E:Env):Option (List (List Value)):=cosGo E (List.range' 0 1025)
theorem eff_not {P:Program}{E:Env}{T:Tab}{ρ:Operand->AV}{dst t:Nat}{o:Oper}{x:Nat}{b:Bool}(ho:o.op=.unOp .not t (.tmp x))(h:ρ (.tmp x)=.val false [.d (.v (.bool b))]) :
  eff P E T ρ dst (.pure o)=some (.val false [.d (.v (.bool !b))],[]):=by
 have h1:valO ρ (.tmp x)=some (.bool b):=by simp [valO,h,toVal,plainC]
 simp only [eff,nanPure,nanCx,ho,Op.operands,List.all_cons,List.all_nil,h1]
 simp [execOp,ho,h1,evalPure,ofVal,ofValC,plain,bind,Sem.bind,pure]
 rfl
section
variable {P:Program}{E:Env}{T:Tab}{ρ:Operand->AV}{dst:Nat}
theorem effE_mv {x:Operand}:eff P E T ρ dst (.mv x)=some (ρ x,[]):=rfl
theorem effE_alloc {zero:List C}:eff P E T ρ dst (.alloc zero)=if (aget T dst).isNone then some (.val false [.ptr dst 0],[(dst,.box zero)]) else none:=rfl
theorem effE_load {agg:Bool}{sz:Nat}{x:Operand}:eff P E T ρ dst (.load agg sz x)=(match oneA (ρ x) with
  | some (.ptr n off)=>match aget T n with
   | some (.box cs)=>if off+sz<=cs.length then (aggA agg ((cs.drop off).take sz)).map fun y=>(y,[]) else none
   | _=>none
  | some (.eptr n i off)=>match aget T n with
   | some (.own _ rows) | some (.imm rows)=>
    if i < rows.length/\off+sz<=(rowAt rows i).length then (aggA agg ((((rowAt rows i).drop off).take sz).map .d)).map fun y=>(y,[]) else none
   | _=>none
  | some (.d (.cref cs off))=>if off+sz<=cs.length then (aggA agg (((cs.drop off).take sz).map .d)).map fun y=>(y,[]) else none
  | some (.pptr n off)=>if sz=1 then (aggA agg [C.ptr n off]).map fun y=>(y,[]) else none
  | _=>none):=by simp only [eff] <;> rfl
theorem effE_store {sz:Nat}{x y:Operand}:eff P E T ρ dst (.store sz x y)=(match cellsA (ρ y),oneA (ρ x) with
  | some ys,some (.ptr n off)=>match aget T n with
   | some (.box cs)=>if ys.length=sz/\off+sz<=cs.length/\okCs ys=true then some (.val false [.und],[(n,.box (splice cs off ys))]) else none
   | _=>none
  | some ys,some (.eptr n i off)=>match freezeCs T ys with
   | some (ds,es)=>match aget (aputs T es) n with
    | some (.own s rows)=>if ys.length=sz/\i < rows.length/\off+sz<=(rowAt rows i).length then some (.val false [.und],es++[(n,.own s (rows.set i (splice (rowAt rows i) off ds)))]) else none
    | _=>none
   | none=>none
  | _,_=>none):=by simp only [eff] <;> rfl
theorem effE_iaddr {sz len:Nat}{x i:Operand}:eff P E T ρ dst (.iaddr sz (some len) x i)=(match intA (ρ i),oneA (ρ x) with
  | some z,some (.ptr n o)=>if 0<=z/\z < len then some (.val false [.ptr n (o+z.toNat*sz)],[]) else none
  | some z,some (.eptr n k o)=>if 0<=z/\z < len then some (.val false [.eptr n k (o+z.toNat*sz)],[]) else none
  | some z,some (.d (.cref cs o))=>if 0<=z/\z < len then some (.val false [.d (.cref cs (o+z.toNat*sz))],[]) else none
  | _,_=>none):=by simp only [eff] <;> rfl
theorem effE_extract {i:Nat}{x:Operand}:eff P E T ρ dst (.extract i x)=(match ρ x with
  | .tup l=>(l[i]?).map fun p=>(.val p.1 p.2,[])
  | _=>none):=by simp only [eff] <;> rfl
theorem effE_bin {op:BinOp}{t:TypeId}{x y:Operand}:eff P E T ρ dst (.bin op t x y)=match toVal (ρ x),toVal (ρ y) with
  | some a,some b=>(match binV P op t x y a b with
   | some v=>some (ofVal v,[])
   | none=>(nanBin op (ρ x) (ρ y)).map fun c=>(.val false [c],[]))
  | _,_=>(misBin P op t (ρ x) (ρ y)).map fun c=>(.val false [c],[]):=rfl
theorem effE_call (hio:∀ f,E.io f=[])(hpt:∀ f,E.ptrs f=none){f:Nat}{args:List Operand}:eff P E T ρ dst (.call f args)=match argsA T ρ args with
  | some ds=>match E f ds with
   | some res=>callOut dst T (args.flatMap fun x=>namesA T (ρ x)) res
   | none=>none
  | none=>none:=by simp only [eff,hio,hpt];rfl
end
theorem eff_not' {P:Program}{E:Env}{T:Tab}{ρ:Operand->AV}{dst t x ty:Nat}{d:Option Nat}{pos:String}{aft:Array Edge}{g:Option (Nat × Bool)}{b:Bool}(h:ρ (.tmp x)=.val false [.d (.v (.bool b))]) :
  eff P E T ρ dst (.pure { dst:=d,op:=.unOp .not t (.tmp x),type:=ty,pos:=pos,after:=aft,guard:=g })=some (.val false [.d (.v (.bool !b))],[]):=eff_not rfl h
theorem cos_loop {E:Env}(hio:∀ f,E.io f=[])(hpt:∀ f,E.ptrs f=none){l:Nat}{xs:List (List Value)}:∀ (m k i:Nat) (ys:List (List Value)),k+m=1025->cosGo E (List.range' k m)=some ys->xs.drop i=ys->i<=xs.length ->
  icL Tryz.prog E xs l [] (some ⟨[0,7],true,[⟨false,7,0,20007,0⟩],[]⟩)
   (.seq (.region ac170_1 [] (some ⟨[0,7,8],false,[],[]⟩)) (.seq (.cond (.tmp 8) .skip (.exit 0)) (.seq (.block 1 (.seq (.region ac170_2 [] (some ⟨[0,2,7],false,[],[]⟩)) (.seq (.region ac170_3 [] (some ⟨[0,2,3,7],false,[],[]⟩)) (.seq (.region ac170_4 [] (some ⟨[0,2,5,7],false,[],[]⟩)) (.seq (.region ac170_5 [] (some ⟨[0,7,25],false,[],[]⟩)) (.cond (.tmp 25) .ret .skip)))))) (.region ac170_6 [] (some ⟨[0,7],false,[],[]⟩)))))
   (m+1) (.blk 0 .nil) (DoneI xs) (some i) ⟨[(0,.val false [.yld l]),(7,.val false [.d (.v (.int .i64 k))])],[],[]⟩:=by
 intro m
 induction m with
 | zero=>
  intro k i ys hd hgo hdrop hi
  have hcond:¬ ((k:Int) < (1025:Int)):=by omega
  simp -implicitDefEqProofs only [icL_succ,keepsL,pickL,aget,reduceIte,Nat.reduceEqDiff,icC_seq,icC_block,icC_region,icR_cons,icR_nil,ac170_0,ac170_1,ac170_2,ac170_3,ac170_4,ac170_5,ac170_6,okDst,Option.isNone,wantA,icW_t,icW_f,icY_none,icY_some,yieldOf,evO,Option.getD,effE_mv,effE_alloc,effE_load,effE_store,effE_iaddr,effE_extract,effE_bin,effE_call hio hpt,toVal,plainC,binV_lss,binV_add,decide_true,decide_false,Option.map,ofVal,ofValC,plain,icX_some,applyA,backI,flatT,flatA,List.all,List.append,putT,aputs,aput,keepO,icK_seq_n,icK_seq_r,icK_blk_n,icK_blk_r,icK_rounds_n,icK_rounds_r,icC_cond,icC_skip,icC_ret,boolA,icB_t,icB_f,icC_exit,icK_seq_e,icK_rounds_e,icK_blk_e,icK_nil,DoneI,true_and,Bool.and_self,oneA,cellsA,okCs,okC,splice,argsA,toDV,toDC,intA,List.mapM_cons,List.mapM_nil,pure_bind,bind_pure_comp,Option.pure_def,Option.bind_eq_bind,Option.bind,aggA,List.drop,List.take,List.length,Nat.reduceAdd,Nat.reduceLeDiff,Option.map_some,valsOf,namesA,namesC,callOut,List.isEmpty,importRs,importCs,freshAll,tupA,List.append_nil,List.nil_append,Bool.not_true,Bool.not_false,valO,Bool.false_eq_true,List.map_cons,List.map_nil,List.drop_zero,List.take_zero,Nat.zero_add,Nat.le_refl,List.length_cons,List.length_nil,List.take_succ_cons,List.any_nil,if_true,if_false,List.mapM,List.mapM.loop,List.reverse_cons,List.reverse_nil,List.flatMap_cons,List.flatMap_nil,Nat.zero_le,decide_eq_true_eq,Option.isSome,List.flatten_cons,List.flatten_nil,List.any_cons,viewR,viewD,List.cons_append,Bool.or_false,freezeNames,notIn,Nat.add_zero,Nat.mul_zero,List.getElem?_cons_zero,List.getElem?_cons_succ,Nat.reduceSub,Int.toNat_zero,Nat.zero_mul,Int.reduceLT,Int.reduceLE,Int.cast_ofNat_Int,plainCs,Option.map_some,List.drop_succ_cons,and_self,and_true,Bool.and_true,Nat.reduceMul,hcond]
  have hys:ys=[]:=by simpa [cosGo] using hgo.symm
  refine⟨.inr trivial,.inl ?_⟩
  rw [hys] at hdrop
  have:=List.drop_eq_nil_iff.1 hdrop
  congr 1
  omega
 | succ m ih=>
  intro k i ys hd hgo hdrop hi
  have hcond:(k:Int) < (1025:Int):=by omega
  rw [List.range'_succ] at hgo
  simp only [cosGo] at hgo
  split at hgo
  ·rename_i a b c e h126
   split at hgo
   ·rename_i lo hi' x y f h127
    split at hgo
    ·rename_i out hout
     simp only [Option.some.injEq] at hgo
     have hx:xs[i]?=some [.int .i64 k,.agg #[.int .i64 lo,.int .i64 hi']]:=by
      have:(xs.drop i)[0]?=some [.int .i64 k,.agg #[.int .i64 lo,.int .i64 hi']]:=by rw [hdrop,<- hgo];rfl
      simpa using this
     simp -implicitDefEqProofs only [icL_succ,keepsL,pickL,aget,reduceIte,Nat.reduceEqDiff,icC_seq,icC_block,icC_region,icR_cons,icR_nil,ac170_0,ac170_1,ac170_2,ac170_3,ac170_4,ac170_5,ac170_6,okDst,Option.isNone,wantA,icW_t,icW_f,icY_none,icY_some,yieldOf,evO,Option.getD,effE_mv,effE_alloc,effE_load,effE_store,effE_iaddr,effE_extract,effE_bin,effE_call hio hpt,toVal,plainC,binV_lss,binV_add,decide_true,decide_false,Option.map,ofVal,ofValC,plain,icX_some,applyA,backI,flatT,flatA,List.all,List.append,putT,aputs,aput,keepO,icK_seq_n,icK_seq_r,icK_blk_n,icK_blk_r,icK_rounds_n,icK_rounds_r,icC_cond,icC_skip,icC_ret,boolA,icB_t,icB_f,icC_exit,icK_seq_e,icK_rounds_e,icK_blk_e,icK_nil,DoneI,true_and,Bool.and_self,oneA,cellsA,okCs,okC,splice,argsA,toDV,toDC,intA,List.mapM_cons,List.mapM_nil,pure_bind,bind_pure_comp,Option.pure_def,Option.bind_eq_bind,Option.bind,aggA,List.drop,List.take,List.length,Nat.reduceAdd,Nat.reduceLeDiff,Option.map_some,valsOf,namesA,namesC,callOut,List.isEmpty,importRs,importCs,freshAll,tupA,List.append_nil,List.nil_append,Bool.not_true,Bool.not_false,valO,Bool.false_eq_true,List.map_cons,List.map_nil,List.drop_zero,List.take_zero,Nat.zero_add,Nat.le_refl,List.length_cons,List.length_nil,List.take_succ_cons,List.any_nil,if_true,if_false,List.mapM,List.mapM.loop,List.reverse_cons,List.reverse_nil,List.flatMap_cons,List.flatMap_nil,Nat.zero_le,decide_eq_true_eq,Option.isSome,List.flatten_cons,List.flatten_nil,List.any_cons,viewR,viewD,List.cons_append,Bool.or_false,freezeNames,notIn,Nat.add_zero,Nat.mul_zero,List.getElem?_cons_zero,List.getElem?_cons_succ,Nat.reduceSub,Int.toNat_zero,Nat.zero_mul,Int.reduceLT,Int.reduceLE,Int.cast_ofNat_Int,plainCs,Option.map_some,List.drop_succ_cons,and_self,and_true,Bool.and_true,Nat.reduceMul,hcond,h126,h127]
     refine⟨⟨_,hx,rfl⟩,?_,?_⟩
     ·rw [eff_not' (b:=true) rfl]
      have h1:=ih (k+1) (i+1) out (by omega) hout (by rw [<- List.drop_drop,hdrop,<- hgo];rfl) (by have:=(List.getElem?_eq_some_iff.1 hx).1;omega)
      rw [show ((k+1:Nat):Int)=IntKind.wrap .i64 ((k:Int)+1) by rw [IntWalk.i64_in _ (by omega)];rfl] at h1
      simp -implicitDefEqProofs only [keepsL,pickL,aget,reduceIte,Nat.reduceEqDiff,icC_seq,icC_block,icC_region,icR_cons,icR_nil,ac170_0,ac170_1,ac170_2,ac170_3,ac170_4,ac170_5,ac170_6,okDst,Option.isNone,wantA,icW_t,icW_f,icY_none,icY_some,yieldOf,evO,Option.getD,effE_mv,effE_alloc,effE_load,effE_store,effE_iaddr,effE_extract,effE_bin,effE_call hio hpt,toVal,plainC,binV_lss,binV_add,decide_true,decide_false,Option.map,ofVal,ofValC,plain,icX_some,applyA,backI,flatT,flatA,List.all,List.append,putT,aputs,aput,keepO,icK_seq_n,icK_seq_r,icK_blk_n,icK_blk_r,icK_rounds_n,icK_rounds_r,icC_cond,icC_skip,icC_ret,boolA,icB_t,icB_f,icC_exit,icK_seq_e,icK_rounds_e,icK_blk_e,icK_nil,DoneI,true_and,Bool.and_self,oneA,cellsA,okCs,okC,splice,argsA,toDV,toDC,intA,List.mapM_cons,List.mapM_nil,pure_bind,bind_pure_comp,Option.pure_def,Option.bind_eq_bind,Option.bind,aggA,List.drop,List.take,List.length,Nat.reduceAdd,Nat.reduceLeDiff,Option.map_some,valsOf,namesA,namesC,callOut,List.isEmpty,importRs,importCs,freshAll,tupA,List.append_nil,List.nil_append,Bool.not_true,Bool.not_false,valO,Bool.false_eq_true,List.map_cons,List.map_nil,List.drop_zero,List.take_zero,Nat.zero_add,Nat.le_refl,List.length_cons,List.length_nil,List.take_succ_cons,List.any_nil,if_true,if_false,List.mapM,List.mapM.loop,List.reverse_cons,List.reverse_nil,List.flatMap_cons,List.flatMap_nil,Nat.zero_le,decide_eq_true_eq,Option.isSome,List.flatten_cons,List.flatten_nil,List.any_cons,viewR,viewD,List.cons_append,Bool.or_false,freezeNames,notIn,Nat.add_zero,Nat.mul_zero,List.getElem?_cons_zero,List.getElem?_cons_succ,Nat.reduceSub,Int.toNat_zero,Nat.zero_mul,Int.reduceLT,Int.reduceLE,Int.cast_ofNat_Int,plainCs,Option.map_some,List.drop_succ_cons,and_self,and_true,Bool.and_true,Nat.reduceMul]
      exact h1
     ·rw [eff_not' (b:=false) rfl]
      simp -implicitDefEqProofs only [keepsL,pickL,aget,reduceIte,Nat.reduceEqDiff,icC_seq,icC_block,icC_region,icR_cons,icR_nil,ac170_0,ac170_1,ac170_2,ac170_3,ac170_4,ac170_5,ac170_6,okDst,Option.isNone,wantA,icW_t,icW_f,icY_none,icY_some,yieldOf,evO,Option.getD,effE_mv,effE_alloc,effE_load,effE_store,effE_iaddr,effE_extract,effE_bin,effE_call hio hpt,toVal,plainC,binV_lss,binV_add,decide_true,decide_false,Option.map,ofVal,ofValC,plain,icX_some,applyA,backI,flatT,flatA,List.all,List.append,putT,aputs,aput,keepO,icK_seq_n,icK_seq_r,icK_blk_n,icK_blk_r,icK_rounds_n,icK_rounds_r,icC_cond,icC_skip,icC_ret,boolA,icB_t,icB_f,icC_exit,icK_seq_e,icK_rounds_e,icK_blk_e,icK_nil,DoneI,true_and,Bool.and_self,oneA,cellsA,okCs,okC,splice,argsA,toDV,toDC,intA,List.mapM_cons,List.mapM_nil,pure_bind,bind_pure_comp,Option.pure_def,Option.bind_eq_bind,Option.bind,aggA,List.drop,List.take,List.length,Nat.reduceAdd,Nat.reduceLeDiff,Option.map_some,valsOf,namesA,namesC,callOut,List.isEmpty,importRs,importCs,freshAll,tupA,List.append_nil,List.nil_append,Bool.not_true,Bool.not_false,valO,Bool.false_eq_true,List.map_cons,List.map_nil,List.drop_zero,List.take_zero,Nat.zero_add,Nat.le_refl,List.length_cons,List.length_nil,List.take_succ_cons,List.any_nil,if_true,if_false,List.mapM,List.mapM.loop,List.reverse_cons,List.reverse_nil,List.flatMap_cons,List.flatMap_nil,Nat.zero_le,decide_eq_true_eq,Option.isSome,List.flatten_cons,List.flatten_nil,List.any_cons,viewR,viewD,List.cons_append,Bool.or_false,freezeNames,notIn,Nat.add_zero,Nat.mul_zero,List.getElem?_cons_zero,List.getElem?_cons_succ,Nat.reduceSub,Int.toNat_zero,Nat.zero_mul,Int.reduceLT,Int.reduceLE,Int.cast_ofNat_Int,plainCs,Option.map_some,List.drop_succ_cons,and_self,and_true,Bool.and_true,Nat.reduceMul]
      simp
    ·cases hgo
   ·cases hgo
  ·cases hgo
theorem cosGo_plain {E:Env}:∀ (l:List Nat) (xs:List (List Value)),cosGo E l=some xs->∀ x ∈ xs,∀ v ∈ x,plainV v=true
 | [],xs,h=>by simp only [cosGo,Option.some.injEq] at h;subst h;simp
 | d::r,xs,h=>by
  simp only [cosGo] at h
  split at h
  ·split at h
   ·split at h
    ·rename_i out hout
     have ih:=cosGo_plain r out hout
     simp only [Option.some.injEq] at h
     subst h
     intro x hx v hv
     rcases List.mem_cons.1 hx with h1 | h1
     ·subst h1
      rcases List.mem_cons.1 hv with h2 | h2
      ·subst h2;rfl
      ·simp only [List.mem_singleton] at h2;subst h2;rfl
     ·exact ih x h1 v hv
    ·cases h
   ·cases h
  ·cases h
theorem cos_ok (E:Env)(hio:∀ f,E.io f=[])(hpt:∀ f,E.ptrs f=none)(hE:EnvOk Tryz.prog E)(xs:List (List Value))(h:cosSq E=some xs):IterOk Tryz.prog 170 [] xs/\Bodied Tryz.prog 170:=by
 unfold cosSq at h
 obtain⟨fn,h1,h2,h3,h4,h5⟩:=is170
 cases hb:fn.body with
 | none=>rw [hb] at h3;cases h3
 | some c=>
  rw [hb] at h3
  have hfn:fn=Tryz.f170:=by
   have:=h1.symm.trans Tryz.func170
   simpa using this
  refine⟨iterOk_of hE h1 hb (by rw [hfn];rfl) ?_ (by rw [h2];exact h3) (by rw [h2];simp) (cosGo_plain _ _ h) fun l=>?_,⟨fn,h1,by rw [hb];rfl,h5⟩⟩
  ·have:(Tryz.f170.body.map noDraw)=some true:=by kernel_rfl
   rw [<- hfn,hb] at this
   simpa using this
  ·apply wp_ic
   simp -implicitDefEqProofs only [ac170,capT,icC_loop,keepsL,pickL,aget,reduceIte,Nat.reduceEqDiff,icC_seq,icC_block,icC_region,icR_cons,icR_nil,ac170_0,ac170_1,ac170_2,ac170_3,ac170_4,ac170_5,ac170_6,okDst,Option.isNone,wantA,icW_t,icW_f,icY_none,icY_some,yieldOf,evO,Option.getD,effE_mv,effE_alloc,effE_load,effE_store,effE_iaddr,effE_extract,effE_bin,effE_call hio hpt,toVal,plainC,binV_lss,binV_add,decide_true,decide_false,Option.map,ofVal,ofValC,plain,icX_some,applyA,backI,flatT,flatA,List.all,List.append,putT,aputs,aput,keepO,icK_seq_n,icK_seq_r,icK_blk_n,icK_blk_r,icK_rounds_n,icK_rounds_r,icC_cond,icC_skip,icC_ret,boolA,icB_t,icB_f,icC_exit,icK_seq_e,icK_rounds_e,icK_blk_e,icK_nil,DoneI,true_and,Bool.and_self,oneA,cellsA,okCs,okC,splice,argsA,toDV,toDC,intA,List.mapM_cons,List.mapM_nil,pure_bind,bind_pure_comp,Option.pure_def,Option.bind_eq_bind,Option.bind,aggA,List.drop,List.take,List.length,Nat.reduceAdd,Nat.reduceLeDiff,Option.map_some,valsOf,namesA,namesC,callOut,List.isEmpty,importRs,importCs,freshAll,tupA,List.append_nil,List.nil_append,Bool.not_true,Bool.not_false,valO,Bool.false_eq_true,List.map_cons,List.map_nil,List.drop_zero,List.take_zero,Nat.zero_add,Nat.le_refl,List.length_cons,List.length_nil,List.take_succ_cons,List.any_nil,if_true,if_false,List.mapM,List.mapM.loop,List.reverse_cons,List.reverse_nil,List.flatMap_cons,List.flatMap_nil,Nat.zero_le,decide_eq_true_eq,Option.isSome,List.flatten_cons,List.flatten_nil,List.any_cons,viewR,viewD,List.cons_append,Bool.or_false,freezeNames,notIn,Nat.add_zero,Nat.mul_zero,List.getElem?_cons_zero,List.getElem?_cons_succ,Nat.reduceSub,Int.toNat_zero,Nat.zero_mul,Int.reduceLT,Int.reduceLE,Int.cast_ofNat_Int,plainCs,Option.map_some,List.drop_succ_cons,and_self,and_true,Bool.and_true,Nat.reduceMul]
   refine⟨1026,?_⟩
   exact cos_loop hio hpt 1025 0 0 xs (by omega) h rfl (Nat.zero_le _)
end Go.AM
