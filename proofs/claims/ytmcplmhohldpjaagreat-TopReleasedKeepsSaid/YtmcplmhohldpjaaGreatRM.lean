/- The code of the functions that the first examples of chapter 8 run. -/
import Derived.Test.YtmcplmhohldpjaaGreatAMc
import Derived.Test.YtmcplmhohldpjaaGreatProg
namespace Go.AM
open Go.Proofs
set_option maxRecDepth 100000
set_option linter.unusedVariables false
noncomputable def eW (P:Program)(fn:Func)(tr tl:List (Nat × ce)):FnT:=⟨fn.ntmps,tr,tl,(fn.body.bind (mk P fn.ntmps tr tl true)).getD .skip,(gS P fn.results.toList).getD []⟩
def FnT.Is (t:FnT)(P:Program)(f:Nat):Prop:=uu P f t.nt t.tr t.tl t.ac t.rs
def okF (P : Program) (fn : Func) (tr tl : List (Nat × ce)) : Bool := (fn.body.bind (mk P fn.ntmps tr tl true)).isSome && ((gS P fn.results.toList).isSome && !(fn.name == "runtime.NumGoroutine"))
theorem bj {P:Program}{f:Nat}{fn:Func}{tr tl:List (Nat × ce)}(h:P.funcs[f]?=some fn)(hk:okF P fn tr tl=true):(eW P fn tr tl).Is P f:=by
 unfold okF at hk
 simp only [Bool.and_eq_true] at hk
 obtain⟨h1,h2,h3⟩:=hk
 obtain⟨x,hx⟩:=Option.isSome_iff_exists.1 h1
 obtain⟨y,hy⟩:=Option.isSome_iff_exists.1 h2
 refine⟨fn,h,rfl,?_,?_,by simpa using h3⟩
 ·show fn.body.bind (mk P fn.ntmps tr tl true)=some ((fn.body.bind (mk P fn.ntmps tr tl true)).getD .skip)
  rw [hx];rfl
 ·show gS P fn.results.toList=some ((gS P fn.results.toList).getD [])
  rw [hy];rfl
noncomputable def amw:FnT:=eW Tryz.prog Tryz.f20 [tF 0 [],tF 1 [1,2],tF 2 [1,2,3,5],tF 3 [0]] []
theorem ar4:amw.Is Tryz.prog 20:=bj Tryz.func20 (by kernel_rfl)
noncomputable def aoG:FnT:=eW Tryz.prog Tryz.f48 [tF 0 [1],tF 1 [1,5],tF 2 [1,5,18],tF 3 [2,3],tF 4 [1,6],tF 5 [1,6,7],tF 6 [1,6,7,25],tF 8 [1,6,7],tF 9 [1,6,7,56],tF 10 [2,3],tF 7 [1,6,7],tF 11 [1,6,8],tF 12 [1,6,8,61],tF 14 [1,6,8],tF 13 [1,6,8],tF 15 [6,9],tF 16 [9,88,89,90],tF 17 [9,88,89,90,91],tF 18 [9,11,88,89,90],tF 19 [9,88,89,90],tF 20 [9,88,89,90],tF 21 [2,3]] [(6,⟨[1,6,7],true,[⟨false,6,0,20006,0⟩,⟨false,7,0,20007,0⟩],[]⟩),(12,⟨[1,6,8],true,[⟨false,6,0,20006,0⟩,⟨false,8,0,20008,0⟩],[]⟩),(17,⟨[9,88,89,90],true,[⟨false,9,0,20009,0⟩,⟨false,88,0,20088,0⟩,⟨false,90,0,20090,0⟩],[]⟩)]
theorem as7:aoG.Is Tryz.prog 48:=bj Tryz.func48 (by kernel_rfl)
noncomputable def aqm:FnT:=eW Tryz.prog Tryz.f49 [tF 0 [0],tF 1 [0]] []
theorem as5:aqm.Is Tryz.prog 49:=bj Tryz.func49 (by kernel_rfl)
noncomputable def aoT:FnT:=eW Tryz.prog Tryz.f50 [tF 0 [2,3,4,5,6],tF 1 [4,5,6,7,8],tF 2 [4,5,6,7,8,22],tF 3 [4,5,6],tF 4 [4,5,6,7,9],tF 5 [4,5,6,7,9,34],tF 6 [4,5,6],tF 7 [4,5,6,7,9,10],(8,⟨[4,5,6,7,9,10,11],true,[],[]⟩),tF 9 [4,5,6,7,9,10,11,12],tF 10 [4,5,6,7,9,10,11,12,46],tF 11 [4,5,6,7,9,10,11,12,50],tF 12 [4,5,6,7,9,10,11,12,13,52],tF 13 [4,5,6,7,9,10,11,12,13,14],tF 14 [4,5,6,7,9,10,11,12,13,14,61],tF 15 [4,5,6,7,9,10,11,12],(16,⟨[4,5,6,7,9,10,11,67],true,[],[]⟩),tF 17 [4,5,6,7,9,10,11,12],tF 18 [4,5,6]] [(10,⟨[4,5,6,7,9,10,11,12],true,[⟨false,4,0,20004,0⟩,⟨false,5,0,20005,0⟩,⟨false,6,0,20006,0⟩,⟨false,9,0,20009,0⟩,⟨true,7,0,30700,0⟩,⟨true,7,1,30701,0⟩,⟨true,10,0,31000,0⟩,⟨true,11,0,31100,0⟩],[]⟩),(14,⟨[4,5,6,7,9,10,11,12],true,[⟨false,4,0,20004,0⟩,⟨false,5,0,20005,0⟩,⟨false,6,0,20006,0⟩,⟨false,9,0,20009,0⟩,⟨true,7,0,30700,0⟩,⟨true,7,1,30701,0⟩,⟨true,10,0,31000,0⟩,⟨true,11,0,31100,0⟩],[]⟩)]
theorem arC:aoT.Is Tryz.prog 50:=bj Tryz.func50 (by kernel_rfl)
noncomputable def apc:FnT:=eW Tryz.prog Tryz.f51 [tF 0 [0],tF 1 [0]] []
theorem atk:apc.Is Tryz.prog 51:=bj Tryz.func51 (by kernel_rfl)
noncomputable def anF:FnT:=eW Tryz.prog Tryz.f52 [tF 0 [0,1],tF 1 [0,1,10],tF 2 [4],tF 3 [0,1,5],tF 4 [0,1,5,14],tF 6 [0,1,5,25],tF 7 [4],tF 5 [0,1,5],tF 8 [4]] [(4,⟨[0,1,5],true,[⟨false,5,0,20005,0⟩],[]⟩)]
theorem at3:anF.Is Tryz.prog 52:=bj Tryz.func52 (by kernel_rfl)
noncomputable def anm:FnT:=eW Tryz.prog Tryz.f53 [tF 0 [0,1],tF 1 [0,1,10],tF 2 [4],tF 3 [0,1,5],tF 4 [0,1,5,14],tF 6 [0,1,5,25],tF 7 [4],tF 5 [0,1,5],tF 8 [4]] [(4,⟨[0,1,5],true,[⟨false,5,0,20005,0⟩],[]⟩)]
theorem ar0:anm.Is Tryz.prog 53:=bj Tryz.func53 (by kernel_rfl)
noncomputable def amD:FnT:=eW Tryz.prog Tryz.f57 [tF 0 [0,1,2],tF 1 [6]] []
theorem at5:amD.Is Tryz.prog 57:=bj Tryz.func57 (by kernel_rfl)
noncomputable def apF:FnT:=eW Tryz.prog Tryz.f58 [tF 0 [1,2,3],tF 1 [3,7],tF 2 [6],tF 3 [13],tF 4 [6],tF 5 [6]] []
theorem atE:apF.Is Tryz.prog 58:=bj Tryz.func58 (by kernel_rfl)
noncomputable def amY:FnT:=eW Tryz.prog Tryz.f97 [tF 0 [1],tF 1 [1,4],tF 2 [1,4,11],tF 3 [2,3],tF 4 [1,13],tF 5 [2,3],tF 6 [1,18],tF 7 [2,3],tF 8 [1,24,25,26],tF 9 [1,24,25,26,27],tF 10 [1,5,6,24,25,26],tF 11 [1,5,6,24,25,26,31],tF 12 [2,3],tF 13 [1,5,24,25,26,43],tF 14 [2,3],tF 15 [1,24,25,26],tF 16 [2,3]] [(9,⟨[1,24,25,26],true,[⟨false,24,0,20024,0⟩,⟨false,26,0,20026,0⟩],[]⟩)]
theorem asO:amY.Is Tryz.prog 97:=bj Tryz.func97 (by kernel_rfl)
noncomputable def apC:FnT:=eW Tryz.prog Tryz.f98 [tF 0 [1],tF 1 [1,3],tF 2 [1,3,9,10,11],tF 3 [1,3,9,10,11,12],tF 4 [1,3,5,9,10,11],tF 5 [1,3,9,10,11],tF 6 [1,3,9,10,11],tF 7 [2]] [(3,⟨[1,3,9,10,11],true,[⟨false,3,0,20003,0⟩,⟨false,9,0,20009,0⟩,⟨false,11,0,20011,0⟩],[]⟩)]
theorem atT:apC.Is Tryz.prog 98:=bj Tryz.func98 (by kernel_rfl)
noncomputable def amF:FnT:=eW Tryz.prog Tryz.f99 [tF 0 [2,3,4],tF 1 [4]] []
theorem atu:amF.Is Tryz.prog 99:=bj Tryz.func99 (by kernel_rfl)
noncomputable def ah9:FnT:=eW Tryz.prog Tryz.f100 [tF 0 [2,3,4,6],tF 1 [3,4,6,7],tF 2 [6]] []
theorem anh:ah9.Is Tryz.prog 100:=bj Tryz.func100 (by kernel_rfl)
noncomputable def ait:FnT:=eW Tryz.prog Tryz.f101 [tF 0 [1],tF 1 [2]] []
theorem ao8:ait.Is Tryz.prog 101:=bj Tryz.func101 (by kernel_rfl)
noncomputable def ahE:FnT:=eW Tryz.prog Tryz.f102 [tF 0 [2,3,4,6],tF 1 [3,4,6,7],tF 2 [6]] []
theorem apZ:ahE.Is Tryz.prog 102:=bj Tryz.func102 (by kernel_rfl)
noncomputable def ahC:FnT:=eW Tryz.prog Tryz.f103 [tF 0 [2,3,4],tF 1 [4,6,7,8],tF 2 [4,6,7,8,22],tF 3 [4,5],tF 4 [4,6,9],tF 5 [4,9,44],tF 6 [4,5],tF 7 [4,5]] []
theorem ans:ahC.Is Tryz.prog 103:=bj Tryz.func103 (by kernel_rfl)
noncomputable def aiy:FnT:=eW Tryz.prog Tryz.f104 [tF 0 [1,2,4],tF 1 [1,2,4,5],tF 2 [1,2,4,5],tF 3 [2,4,5,6],tF 4 [2,4,5,6,24],tF 5 [2,4,5,6,7],tF 6 [2,4,5,6,7],tF 7 [2,4,5,6,7,32],tF 8 [2,4,5,6,7,9],tF 9 [2,4,5,6,7,9,39],tF 10 [2,4,5,6,7,9],tF 11 [2,4,5,6,7],tF 12 [4],tF 1000029 []] [(4,⟨[2,4,5,6],true,[⟨false,4,0,20004,0⟩,⟨true,5,0,30500,0⟩,⟨true,6,0,30600,0⟩],[]⟩),(9,⟨[2,4,5,6,7],true,[⟨false,4,0,20004,0⟩,⟨true,5,0,30500,0⟩,⟨true,6,0,30600,0⟩],[]⟩)]
theorem apD:aiy.Is Tryz.prog 104:=bj Tryz.func104 (by kernel_rfl)
noncomputable def ahV:FnT:=eW Tryz.prog Tryz.f105 [tF 0 [2,3],tF 1 [4]] []
theorem am4:ahV.Is Tryz.prog 105:=bj Tryz.func105 (by kernel_rfl)
noncomputable def aii:FnT:=eW Tryz.prog Tryz.f106 [tF 0 [1,2,3],tF 1 [6]] []
theorem amy:aii.Is Tryz.prog 106:=bj Tryz.func106 (by kernel_rfl)
noncomputable def aie:FnT:=eW Tryz.prog Tryz.f150 [tF 0 [1],tF 1 [2]] []
theorem aph:aie.Is Tryz.prog 150:=bj Tryz.func150 (by kernel_rfl)
noncomputable def ahQ:FnT:=eW Tryz.prog Tryz.f151 [tF 0 [1,2,4],tF 1 [1,2,4,8],tF 2 [1,2,4,8,18],tF 3 [4,5,6],tF 4 [1,2,4,9],tF 5 [2,4,9,21,22,23],tF 6 [2,4,9,21,22,23,24],tF 7 [2,4,9,11,21,22,23],tF 8 [2,4,9,11,21,22,23,32],tF 9 [4,5,6],tF 10 [2,4,9,21,22,23],tF 11 [2,4,9,21,22,23],tF 12 [4,5,6]] [(6,⟨[2,4,9,21,22,23],true,[⟨false,9,0,20009,0⟩,⟨false,21,0,20021,0⟩,⟨false,23,0,20023,0⟩,⟨true,4,0,30400,0⟩,⟨true,4,1,30401,0⟩],[]⟩)]
theorem amO:ahQ.Is Tryz.prog 151:=bj Tryz.func151 (by kernel_rfl)
noncomputable def aix:FnT:=eW Tryz.prog Tryz.f152 [tF 0 [1,2],tF 1 [4]] []
theorem apX:aix.Is Tryz.prog 152:=bj Tryz.func152 (by kernel_rfl)
noncomputable def aio:FnT:=eW Tryz.prog Tryz.f153 [tF 0 [0,1],tF 1 [0,1,10],tF 2 [0,1],tF 3 [0,5,6],tF 4 [0,6,26],tF 5 [0,6],tF 6 [0,7],tF 7 [7,8],tF 8 [7,8,37],tF 9 [7,8],tF 10 [4],tF 1100041 [],tF 1100044 []] [(8,⟨[7,8],true,[⟨false,7,0,20007,0⟩,⟨false,8,0,20008,0⟩],[]⟩)]
theorem aow:aio.Is Tryz.prog 153:=bj Tryz.func153 (by kernel_rfl)
noncomputable def aip:FnT:=eW Tryz.prog Tryz.f155 [tF 0 [0,1],tF 1 [4]] []
theorem apy:aip.Is Tryz.prog 155:=bj Tryz.func155 (by kernel_rfl)
noncomputable def aiD:FnT:=eW Tryz.prog Tryz.f184 [tF 0 [0,1],tF 1 [0,1,6],tF 2 [0,1,6,7],tF 3 [0,1,6,7,8],tF 4 [0,1,6,7,8,9],tF 5 [0,1,6,7,8,9,10],tF 6 [0,1,6,7,9,11],tF 7 [0,1,6,7,9,11,12],tF 8 [0,1,6,7,9,12,13],tF 9 [0,1,7,9,12,13],tF 10 [0,1,4],tF 11 [4,5]] []
theorem arj:aiD.Is Tryz.prog 184:=bj Tryz.func184 (by kernel_rfl)
noncomputable def aiq:FnT:=eW Tryz.prog Tryz.f192 [tF 0 [1],tF 1 [1,11],tF 2 [2,3],tF 3 [1,13,14,15],tF 4 [1,13,14,15,16],tF 5 [1,4,5,13,14,15],tF 6 [1,4,5,13,14,15,20],tF 7 [2,3],tF 8 [1,4,13,14,15,25],tF 9 [2,3],tF 10 [1,13,14,15],tF 11 [1,37],tF 12 [2,3],tF 13 [1,39,40,41],tF 14 [1,39,40,41,42],tF 15 [1,6,7,39,40,41],tF 16 [1,6,39,40,41,63],tF 17 [2,3],tF 18 [1,39,40,41],tF 19 [2,3]] [(4,⟨[1,13,14,15],true,[⟨false,13,0,20013,0⟩,⟨false,15,0,20015,0⟩],[]⟩),(14,⟨[1,39,40,41],true,[⟨false,39,0,20039,0⟩,⟨false,41,0,20041,0⟩],[]⟩)]
theorem anW:aiq.Is Tryz.prog 192:=bj Tryz.func192 (by kernel_rfl)
noncomputable def ahM:FnT:=eW Tryz.prog Tryz.f193 [tF 0 [0],tF 1 [0,3],tF 2 [3,6,7,8],tF 3 [3,6,7,8,9],tF 4 [3,4,5,6,7,8],tF 5 [3,4,6,7,8,13],tF 6 [3,6,7,8],tF 7 [3,6,7,8],tF 8 [2]] [(3,⟨[3,6,7,8],true,[⟨false,3,0,20003,0⟩,⟨false,6,0,20006,0⟩,⟨false,8,0,20008,0⟩],[]⟩)]
theorem aol:ahM.Is Tryz.prog 193:=bj Tryz.func193 (by kernel_rfl)
noncomputable def ahr:FnT:=eW Tryz.prog Tryz.f194 [tF 0 [2,3],tF 1 [4]] []
theorem apB:ahr.Is Tryz.prog 194:=bj Tryz.func194 (by kernel_rfl)
noncomputable def aij:FnT:=eW Tryz.prog Tryz.f195 [tF 0 [0,1],tF 1 [6,7],tF 2 [4,5],tF 3 [8,9],tF 4 [4,5]] []
theorem aoc:aij.Is Tryz.prog 195:=bj Tryz.func195 (by kernel_rfl)
noncomputable def ahO:FnT:=eW Tryz.prog Tryz.f208 [tF 0 [0],tF 1 [0,7,8,9],tF 2 [0,7,8,9,10],tF 3 [0,3,4,7,8,9],tF 4 [0,3,4,5,7,8,9],tF 5 [0,7,8,9,45],tF 6 [2],tF 7 [0,7,8,9],tF 8 [2]] [(2,⟨[0,7,8,9],true,[⟨false,7,0,20007,0⟩,⟨false,9,0,20009,0⟩],[]⟩)]
theorem aqZ:ahO.Is Tryz.prog 208:=bj Tryz.func208 (by kernel_rfl)
noncomputable def ahu:FnT:=eW Tryz.prog Tryz.f209 [tF 0 [0,1],tF 1 [4]] []
theorem amI:ahu.Is Tryz.prog 209:=bj Tryz.func209 (by kernel_rfl)
noncomputable def aic:FnT:=eW Tryz.prog Tryz.f210 [tF 0 [0,1],tF 1 [0,1,7,8],tF 2 [0,1,7,8,9],tF 3 [0,1,5,7,8],tF 4 [0,1,5,7,8,16],tF 5 [4],tF 6 [0,1,7,8],tF 7 [4]] [(2,⟨[0,1,7,8],true,[⟨false,8,0,20008,0⟩],[]⟩)]
theorem aqN:aic.Is Tryz.prog 210:=bj Tryz.func210 (by kernel_rfl)
noncomputable def ahy:FnT:=eW Tryz.prog Tryz.f211 [tF 0 [1,2],tF 1 [3]] []
theorem amx:ahy.Is Tryz.prog 211:=bj Tryz.func211 (by kernel_rfl)
noncomputable def aia:FnT:=eW Tryz.prog Tryz.f212 [tF 0 [0,1],tF 1 [4]] []
theorem aoU:aia.Is Tryz.prog 212:=bj Tryz.func212 (by kernel_rfl)
noncomputable def ahY:FnT:=eW Tryz.prog Tryz.f213 [tF 0 [0,1],tF 1 [6],tF 2 [4,5]] []
theorem aoD:ahY.Is Tryz.prog 213:=bj Tryz.func213 (by kernel_rfl)
noncomputable def aiF:FnT:=eW Tryz.prog Tryz.f219 [tF 0 [0,1],tF 1 [0,1,7,8],tF 2 [0,1,7,8,9],tF 3 [0,1,5,7,8],tF 4 [0,1,5,7,8,16],tF 5 [4],tF 6 [0,1,7,8],tF 7 [4]] [(2,⟨[0,1,7,8],true,[⟨false,8,0,20008,0⟩],[]⟩)]
theorem amG:aiF.Is Tryz.prog 219:=bj Tryz.func219 (by kernel_rfl)
def PH:List be:=[
 ⟨(some 6),(.faddr 0 (.tmp 1)),none⟩,
 ⟨(some 7),(.faddr 0 (.tmp 6)),none⟩,
 ⟨(some 8),(.load false 1 (.tmp 7)),none⟩,
 ⟨(some 9),(.len (.tmp 8)),none⟩,
 ⟨(some 10),(.mv (.const (.int .i64 0))),none⟩]
def ke:List be:=[
 ⟨(some 11),(.bin .lss 3 (.tmp 10) (.tmp 9)),none⟩]
def mn:List be:=[
 ⟨(some 12),(.mv (.tmp 10)),none⟩,
 ⟨(some 4),(.mv (.tmp 12)),none⟩]
def mz:List be:=[
 ⟨(some 13),(.load false 1 (.tmp 2)),none⟩,
 ⟨(some 14),(.mv (.tmp 4)),none⟩,
 ⟨(some 15),(.call 155 [(.tmp 13),(.tmp 14)]),none⟩,
 ⟨(some 5),(.mv (.tmp 15)),none⟩]
def mE:List be:=[
 ⟨(some 16),(.load true 2 (.tmp 1)),none⟩,
 ⟨(some 17),(.mv (.tmp 5)),none⟩,
 ⟨(some 18),(.call 152 [(.tmp 16),(.tmp 17)]),none⟩,
 ⟨(some 19),(.mv (.tmp 18)),none⟩,
 ⟨(some 20),(.mv (.tmp 0)),(some (19,true))⟩,
 ⟨(some 21),(.mv (.tmp 4)),(some (19,true))⟩,
 ⟨(some 22),(.mv (.tmp 5)),(some (19,true))⟩,
 ⟨(some 23),(.calld (.tmp 20) [(.tmp 21),(.tmp 22)]),(some (19,true))⟩,
 ⟨(some 24),(.pure (oB (.unOp .not 4 (.tmp 23)) 4)),(some (19,true))⟩,
 ⟨(some 25),(.pick (.tmp 19) (.tmp 24) (.const (.bool false))),none⟩]
def mK:List be:=[
 ⟨(some 26),(.bin .add 3 (.tmp 10) (.const (.int .i64 1))),none⟩,
 ⟨(some 10),(.mv (.tmp 26)),none⟩]
def ahN:List (Nat × ce):=[(0,⟨[0,1,2,9,10],false,[],[]⟩),(1,⟨[0,1,2,9,10,11],false,[],[]⟩),(2,⟨[0,1,2,4,9,10],false,[],[]⟩),(3,⟨[0,1,2,4,5,9,10],false,[],[]⟩),(4,⟨[0,1,2,9,10,25],false,[],[]⟩),(5,⟨[0,1,2,9,10],false,[],[]⟩)]
def ain:List (Nat × ce):=[(1,⟨[0,1,2,9,10],true,[⟨false,10,0,20010,0⟩],[]⟩)]
def abk:au:=(.seq (.region PH [] (some ⟨[0,1,2,9,10],false,[],[]⟩)) (.block 0 (.loop (some ⟨[0,1,2,9,10],true,[⟨false,10,0,20010,0⟩],[]⟩) (.seq (.region ke [] (some ⟨[0,1,2,9,10,11],false,[],[]⟩)) (.seq (.cond (.tmp 11) .skip (.exit 0)) (.seq (.block 1 (.seq (.region mn [] (some ⟨[0,1,2,4,9,10],false,[],[]⟩)) (.seq (.region mz [] (some ⟨[0,1,2,4,5,9,10],false,[],[]⟩)) (.seq (.region mE [] (some ⟨[0,1,2,9,10,25],false,[],[]⟩)) (.cond (.tmp 25) .ret .skip))))) (.region mK [] (some ⟨[0,1,2,9,10],false,[],[]⟩))))))))
def aiB:List dQ:=[]
def ao3:FnT:=⟨27,ahN,ain,abk,aiB⟩
theorem ahx:uu Tryz.prog 154 27 ahN ain abk aiB:=⟨Tryz.f154,Tryz.func154,rfl,by kernel_rfl,by kernel_rfl,by kernel_rfl⟩
noncomputable def tbl:List (Nat × FnT):=[(20,amw),(48,aoG),(49,aqm),(50,aoT),(51,apc),(52,anF),(53,anm),(57,amD),(58,apF),(97,amY),(98,apC),(99,amF),(100,ah9),(101,ait),(102,ahE),(103,ahC),(104,aiy),(105,ahV),(106,aii),(150,aie),(151,ahQ),(152,aix),(153,aio),(155,aip),(184,aiD),(192,aiq),(193,ahM),(194,ahr),(195,aij),(208,ahO),(209,ahu),(210,aic),(211,ahy),(212,aia),(213,ahY),(219,aiF),(154,ao3)]
theorem apR:DH Tryz.prog tbl:=⟨ar4,as7,as5,arC,atk,at3,ar0,at5,atE,asO,atT,atu,anh,ao8,apZ,ans,apD,am4,amy,aph,amO,apX,aow,apy,arj,anW,aol,apB,aoc,aqZ,amI,aqN,amx,aoU,aoD,amG,ahx,trivial⟩
end Go.AM
