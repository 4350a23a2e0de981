/- The code of the functions that the first examples of chapter 8 run. -/
import Derived.Test.YtffcelhcekillaaGreatAMc
import Derived.Test.YtffcelhcekillaaGreatProg
namespace Go.AM
open Go.Proofs
set_option maxRecDepth 100000
set_option linter.unusedVariables false
noncomputable def cl (P:Program)(fn:Func)(tr tl:List (Nat × bX)):FnT:=⟨fn.ntmps,tr,tl,(fn.body.bind (mk P fn.ntmps tr tl true)).getD .skip,(gZ P fn.results.toList).getD []⟩
def FnT.Is (t:FnT)(P:Program)(f:Nat):Prop:=tI P f t.nt t.tr t.tl t.ac t.rs
def okF (P : Program) (fn : Func) (tr tl : List (Nat × bX)) : Bool := (fn.body.bind (mk P fn.ntmps tr tl true)).isSome && ((gZ P fn.results.toList).isSome && !(fn.name == "runtime.NumGoroutine"))
theorem aQ {P:Program}{f:Nat}{fn:Func}{tr tl:List (Nat × bX)}(h:P.funcs[f]?=some fn)(hk:okF P fn tr tl=true):(cl P fn tr tl).Is P f:=by
 unfold okF at hk;simp only [Bool.and_eq_true] at hk;obtain⟨h1,h2,h3⟩:=hk;obtain⟨x,hx⟩:=Option.isSome_iff_exists.1 h1;obtain⟨y,hy⟩:=Option.isSome_iff_exists.1 h2;refine⟨fn,h,rfl,?_,?_,by simpa using h3⟩
 ·show fn.body.bind (mk P fn.ntmps tr tl true)=some ((fn.body.bind (mk P fn.ntmps tr tl true)).getD .skip)
  rw [hx];rfl
 ·show gZ P fn.results.toList=some ((gZ P fn.results.toList).getD [])
  rw [hy];rfl
noncomputable def ft6:FnT:=cl Tryz.prog Tryz.f6 [tF 0 [],tF 1 [1,2],tF 2 [1,2,3,4],tF 3 [1,2,3,4,5,7],tF 4 [1,2,3,4,5,7,8,9],tF 5 [1,2,3,4,5,7,8,9,10,11],tF 6 [0]] []
theorem is6:ft6.Is Tryz.prog 6:=aQ Tryz.func6 (by kernel_rfl)
noncomputable def aAi:FnT:=cl Tryz.prog Tryz.f18 [tF 0 [1],tF 1 [1,5],tF 2 [1,5,18],tF 3 [2,3],tF 4 [1,6],tF 5 [1,6,7],tF 6 [1,6,7,25],tF 8 [1,6,7],tF 9 [1,6,7,56],tF 10 [2,3],tF 7 [1,6,7],tF 11 [1,6,8],tF 12 [1,6,8,61],tF 14 [1,6,8],tF 13 [1,6,8],tF 15 [6,9],tF 16 [9,88,89,90],tF 17 [9,88,89,90,91],tF 18 [9,11,88,89,90],tF 19 [9,88,89,90],tF 20 [9,88,89,90],tF 21 [2,3]] [(6,⟨[1,6,7],true,[⟨false,6,0,20006,0⟩,⟨false,7,0,20007,0⟩],[]⟩),(12,⟨[1,6,8],true,[⟨false,6,0,20006,0⟩,⟨false,8,0,20008,0⟩],[]⟩),(17,⟨[9,88,89,90],true,[⟨false,9,0,20009,0⟩,⟨false,88,0,20088,0⟩,⟨false,90,0,20090,0⟩],[]⟩)]
theorem aI8:aAi.Is Tryz.prog 18:=aQ Tryz.func18 (by kernel_rfl)
noncomputable def aB9:FnT:=cl Tryz.prog Tryz.f19 [tF 0 [0],tF 1 [0]] []
theorem aI0:aB9.Is Tryz.prog 19:=aQ Tryz.func19 (by kernel_rfl)
noncomputable def aBU:FnT:=cl Tryz.prog Tryz.f20 [tF 0 [1],tF 1 [1,5],tF 2 [1,5,20],tF 3 [2,3],tF 4 [1,6],tF 5 [1,6,7],tF 6 [1,6,7,8],tF 7 [6,7,8,27,28,29],tF 8 [6,7,8,27,28,29,30],tF 9 [6,7,8,9,10,27,28,29],tF 10 [6,7,8,9,11,27,28,29],tF 11 [6,7,8,9,11,27,28,29,39],tF 12 [6,7,8,27,28,29],tF 13 [6,7,8,9,11,12,13,27,28,29],tF 15 [6,7,8,9,11,12,13,27,28,29,62],tF 16 [6,7,8,9,11,12,27,28,29,75],tF 17 [6,7,8,9,11,27,28,29],tF 18 [6,7,8,27,28,29],tF 19 [6,7,8,9,11,13,27,28,29,87],tF 20 [6,7,8,9,11,13,27,28,29,100],tF 21 [6,7,8,9,11,27,28,29],tF 22 [6,7,8,27,28,29],tF 14 [6,7,8,27,28,29],tF 23 [6,7,8,27,28,29],tF 24 [2,3]] [(8,⟨[6,7,8,27,28,29],true,[⟨false,6,0,20006,0⟩,⟨false,27,0,20027,0⟩,⟨false,29,0,20029,0⟩,⟨true,8,1,30801,0⟩],[]⟩)]
theorem aKR:aBU.Is Tryz.prog 20:=aQ Tryz.func20 (by kernel_rfl)
noncomputable def aAA:FnT:=cl Tryz.prog Tryz.f21 [tF 0 [0],tF 1 [0]] []
theorem aJI:aAA.Is Tryz.prog 21:=aQ Tryz.func21 (by kernel_rfl)
noncomputable def aEU:FnT:=cl Tryz.prog Tryz.f22 [tF 0 [2,3,4,5,6],tF 1 [4,5,6,7,8],tF 2 [4,5,6,7,8,22],tF 3 [4,5,6],tF 4 [4,5,6,7,9],tF 5 [4,5,6,7,9,34],tF 6 [4,5,6],tF 7 [4,5,6,7,9,10],(8,⟨[4,5,6,7,9,10,11],true,[],[]⟩),tF 9 [4,5,6,7,9,10,11,12],tF 10 [4,5,6,7,9,10,11,12,46],tF 11 [4,5,6,7,9,10,11,12,50],tF 12 [4,5,6,7,9,10,11,12,13,52],tF 13 [4,5,6,7,9,10,11,12,13,14],tF 14 [4,5,6,7,9,10,11,12,13,14,61],tF 15 [4,5,6,7,9,10,11,12],(16,⟨[4,5,6,7,9,10,11,67],true,[],[]⟩),tF 17 [4,5,6,7,9,10,11,12],tF 18 [4,5,6]] [(10,⟨[4,5,6,7,9,10,11,12],true,[⟨false,4,0,20004,0⟩,⟨false,5,0,20005,0⟩,⟨false,6,0,20006,0⟩,⟨false,9,0,20009,0⟩,⟨true,7,0,30700,0⟩,⟨true,7,1,30701,0⟩,⟨true,10,0,31000,0⟩,⟨true,11,0,31100,0⟩],[]⟩),(14,⟨[4,5,6,7,9,10,11,12],true,[⟨false,4,0,20004,0⟩,⟨false,5,0,20005,0⟩,⟨false,6,0,20006,0⟩,⟨false,9,0,20009,0⟩,⟨true,7,0,30700,0⟩,⟨true,7,1,30701,0⟩,⟨true,10,0,31000,0⟩,⟨true,11,0,31100,0⟩],[]⟩)]
theorem aJP:aEU.Is Tryz.prog 22:=aQ Tryz.func22 (by kernel_rfl)
noncomputable def aDN:FnT:=cl Tryz.prog Tryz.f23 [tF 0 [0],tF 1 [0]] []
theorem aJV:aDN.Is Tryz.prog 23:=aQ Tryz.func23 (by kernel_rfl)
noncomputable def aDe:FnT:=cl Tryz.prog Tryz.f24 [tF 0 [2,3,4],tF 1 [2,3,4,6],tF 2 [2,3,4,6,16],tF 3 [4,5],tF 4 [2,3,4,21],tF 5 [4,5],tF 6 [3,4,7,8],tF 7 [4,5]] []
theorem aIS:aDe.Is Tryz.prog 24:=aQ Tryz.func24 (by kernel_rfl)
noncomputable def aHn:FnT:=cl Tryz.prog Tryz.f25 [tF 0 [2,3,4],tF 1 [2,3,4,6],tF 2 [2,3,4,6,14],tF 3 [4,5],tF 4 [4,5]] []
theorem aJZ:aHn.Is Tryz.prog 25:=aQ Tryz.func25 (by kernel_rfl)
noncomputable def aH5:FnT:=cl Tryz.prog Tryz.f26 [tF 0 [0,1],tF 1 [0,1,10],tF 2 [4],tF 3 [0,1,5],tF 4 [0,1,5,14],tF 6 [0,1,5,25],tF 7 [4],tF 5 [0,1,5],tF 8 [4]] [(4,⟨[0,1,5],true,[⟨false,5,0,20005,0⟩],[]⟩)]
theorem aKC:aH5.Is Tryz.prog 26:=aQ Tryz.func26 (by kernel_rfl)
noncomputable def aC4:FnT:=cl Tryz.prog Tryz.f27 [tF 0 [0,1],tF 1 [0,1,10],tF 2 [4],tF 3 [0,1,5],tF 4 [0,1,5,14],tF 6 [0,1,5,25],tF 7 [4],tF 5 [0,1,5],tF 8 [4]] [(4,⟨[0,1,5],true,[⟨false,5,0,20005,0⟩],[]⟩)]
theorem aLm:aC4.Is Tryz.prog 27:=aQ Tryz.func27 (by kernel_rfl)
noncomputable def az3:FnT:=cl Tryz.prog Tryz.f29 [tF 0 [0,1,2],tF 1 [6]] []
theorem aJO:az3.Is Tryz.prog 29:=aQ Tryz.func29 (by kernel_rfl)
noncomputable def aFo:FnT:=cl Tryz.prog Tryz.f38 [tF 0 [1,2,3],tF 1 [3,7],tF 2 [6],tF 3 [13],tF 4 [6],tF 5 [6]] []
theorem aKn:aFo.Is Tryz.prog 38:=aQ Tryz.func38 (by kernel_rfl)
noncomputable def aEg:FnT:=cl Tryz.prog Tryz.f46 [tF 0 [1],tF 1 [1,4],tF 2 [1,4,11],tF 3 [2,3],tF 4 [1,13],tF 5 [2,3],tF 6 [1,18],tF 7 [2,3],tF 8 [1,24,25,26],tF 9 [1,24,25,26,27],tF 10 [1,5,6,24,25,26],tF 11 [1,5,6,24,25,26,31],tF 12 [2,3],tF 13 [1,5,24,25,26,43],tF 14 [2,3],tF 15 [1,24,25,26],tF 16 [2,3]] [(9,⟨[1,24,25,26],true,[⟨false,24,0,20024,0⟩,⟨false,26,0,20026,0⟩],[]⟩)]
theorem aLu:aEg.Is Tryz.prog 46:=aQ Tryz.func46 (by kernel_rfl)
noncomputable def aHz:FnT:=cl Tryz.prog Tryz.f47 [tF 0 [1],tF 1 [1,3],tF 2 [1,3,9,10,11],tF 3 [1,3,9,10,11,12],tF 4 [1,3,5,9,10,11],tF 5 [1,3,9,10,11],tF 6 [1,3,9,10,11],tF 7 [2]] [(3,⟨[1,3,9,10,11],true,[⟨false,3,0,20003,0⟩,⟨false,9,0,20009,0⟩,⟨false,11,0,20011,0⟩],[]⟩)]
theorem aJL:aHz.Is Tryz.prog 47:=aQ Tryz.func47 (by kernel_rfl)
noncomputable def aG9:FnT:=cl Tryz.prog Tryz.f48 [tF 0 [2,3,4],tF 1 [4]] []
theorem aJ6:aG9.Is Tryz.prog 48:=aQ Tryz.func48 (by kernel_rfl)
noncomputable def aBk:FnT:=cl Tryz.prog Tryz.f49 [tF 0 [2,3,4,6],tF 1 [3,4,6,7],tF 2 [6]] []
theorem aLd:aBk.Is Tryz.prog 49:=aQ Tryz.func49 (by kernel_rfl)
noncomputable def aEv:FnT:=cl Tryz.prog Tryz.f50 [tF 0 [1],tF 1 [2]] []
theorem aJd:aEv.Is Tryz.prog 50:=aQ Tryz.func50 (by kernel_rfl)
noncomputable def aHm:FnT:=cl Tryz.prog Tryz.f51 [tF 0 [2,3,4,6],tF 1 [3,4,6,7],tF 2 [6]] []
theorem aKY:aHm.Is Tryz.prog 51:=aQ Tryz.func51 (by kernel_rfl)
noncomputable def aEi:FnT:=cl Tryz.prog Tryz.f52 [tF 0 [1],tF 1 [1,7],tF 2 [2,3],tF 3 [1,12],tF 4 [2,3],tF 5 [18,19,20],tF 6 [18,19,20,21],tF 7 [4,5,18,19,20],tF 8 [4,6,18,19,20],tF 9 [4,6,18,19,20,27],tF 10 [2,3],tF 11 [4,18,19,20,37],tF 12 [2,3],tF 13 [18,19,20],tF 14 [2,3]] [(6,⟨[18,19,20],true,[⟨false,18,0,20018,0⟩,⟨false,20,0,20020,0⟩],[]⟩)]
theorem aKS:aEi.Is Tryz.prog 52:=aQ Tryz.func52 (by kernel_rfl)
noncomputable def aFu:FnT:=cl Tryz.prog Tryz.f53 [tF 0 [0],tF 1 [0,7],tF 2 [0],tF 3 [0,3],tF 4 [0,3,4],tF 5 [0,3,4,15],tF 7 [0,3,4],tF 6 [0,3,4],tF 8 [2]] [(5,⟨[0,3,4],true,[⟨false,3,0,20003,0⟩,⟨false,4,0,20004,0⟩],[]⟩)]
theorem aJH:aFu.Is Tryz.prog 53:=aQ Tryz.func53 (by kernel_rfl)
noncomputable def aCd:FnT:=cl Tryz.prog Tryz.f54 [tF 0 [0],tF 1 [0,7],tF 2 [0],tF 3 [0,3],tF 4 [0,3,4],tF 5 [0,3,4,15],tF 7 [0,3,4],tF 6 [0,3,4],tF 8 [2]] [(5,⟨[0,3,4],true,[⟨false,3,0,20003,0⟩,⟨false,4,0,20004,0⟩],[]⟩)]
theorem aKF:aCd.Is Tryz.prog 54:=aQ Tryz.func54 (by kernel_rfl)
noncomputable def aFs:FnT:=cl Tryz.prog Tryz.f55 [tF 0 [1,2,3,6],tF 1 [1,2,3,6,7],tF 2 [1,2,3,6,7,8],tF 3 [1,2,3,6,7,8,17,18,19],tF 4 [1,2,3,6,7,8,17,18,19,20],tF 5 [1,2,3,6,7,8,9,10,17,18,19],tF 6 [1,2,3,6,7,8,9,17,18,19,26],tF 7 [1,2,3,6,7,8,17,18,19],tF 8 [1,2,3,6,7,8,17,18,19],tF 9 [6]] [(4,⟨[1,2,3,6,7,8,17,18,19],true,[⟨false,7,0,20007,0⟩,⟨false,8,0,20008,0⟩,⟨false,17,0,20017,0⟩,⟨false,19,0,20019,0⟩],[]⟩)]
theorem aKW:aFs.Is Tryz.prog 55:=aQ Tryz.func55 (by kernel_rfl)
noncomputable def aBK:FnT:=cl Tryz.prog Tryz.f56 [tF 0 [0,1,2],tF 1 [4]] []
theorem aK7:aBK.Is Tryz.prog 56:=aQ Tryz.func56 (by kernel_rfl)
noncomputable def aAr:FnT:=cl Tryz.prog Tryz.f57 [tF 0 [0,1,2],tF 1 [4]] []
theorem aLe:aAr.Is Tryz.prog 57:=aQ Tryz.func57 (by kernel_rfl)
noncomputable def aHH:FnT:=cl Tryz.prog Tryz.f58 [tF 0 [2,3,4],tF 1 [4,6,7,8],tF 2 [4,6,7,8,22],tF 3 [4,5],tF 4 [4,6,9],tF 5 [4,9,44],tF 6 [4,5],tF 7 [4,5]] []
theorem aJN:aHH.Is Tryz.prog 58:=aQ Tryz.func58 (by kernel_rfl)
noncomputable def aEO:FnT:=cl Tryz.prog Tryz.f59 [tF 0 [1,2,4],tF 1 [1,2,4,5],tF 2 [1,2,4,5],tF 3 [2,4,5,6],tF 4 [2,4,5,6,24],tF 5 [2,4,5,6,7],tF 6 [2,4,5,6,7],tF 7 [2,4,5,6,7,32],tF 8 [2,4,5,6,7,9],tF 9 [2,4,5,6,7,9,39],tF 10 [2,4,5,6,7,9],tF 11 [2,4,5,6,7],tF 12 [4],tF 1000029 []] [(4,⟨[2,4,5,6],true,[⟨false,4,0,20004,0⟩,⟨true,5,0,30500,0⟩,⟨true,6,0,30600,0⟩],[]⟩),(9,⟨[2,4,5,6,7],true,[⟨false,4,0,20004,0⟩,⟨true,5,0,30500,0⟩,⟨true,6,0,30600,0⟩],[]⟩)]
theorem aJC:aEO.Is Tryz.prog 59:=aQ Tryz.func59 (by kernel_rfl)
noncomputable def aAG:FnT:=cl Tryz.prog Tryz.f60 [tF 0 [2,3],tF 1 [4]] []
theorem aKd:aAG.Is Tryz.prog 60:=aQ Tryz.func60 (by kernel_rfl)
noncomputable def aFW:FnT:=cl Tryz.prog Tryz.f61 [tF 0 [0],tF 1 [5,6,7],tF 2 [5,6,7,8],tF 3 [4,5,6,7],tF 4 [4,5,6,7,12],tF 5 [2],tF 6 [5,6,7],tF 7 [2]] [(2,⟨[5,6,7],true,[⟨false,5,0,20005,0⟩,⟨false,7,0,20007,0⟩],[]⟩)]
theorem aKH:aFW.Is Tryz.prog 61:=aQ Tryz.func61 (by kernel_rfl)
noncomputable def aFi:FnT:=cl Tryz.prog Tryz.f62 [tF 0 [1],tF 1 [18],tF 2 [2],tF 3 [2]] []
theorem aKP:aFi.Is Tryz.prog 62:=aQ Tryz.func62 (by kernel_rfl)
noncomputable def aBX:FnT:=cl Tryz.prog Tryz.f63 [tF 0 [1],tF 1 [2]] []
theorem aJU:aBX.Is Tryz.prog 63:=aQ Tryz.func63 (by kernel_rfl)
noncomputable def aE6:FnT:=cl Tryz.prog Tryz.f64 [tF 0 [1],tF 1 [2,3]] []
theorem aKX:aE6.Is Tryz.prog 64:=aQ Tryz.func64 (by kernel_rfl)
noncomputable def aGP:FnT:=cl Tryz.prog Tryz.f65 [tF 0 [0,1],tF 1 [4]] []
theorem aK5:aGP.Is Tryz.prog 65:=aQ Tryz.func65 (by kernel_rfl)
noncomputable def aAl:FnT:=cl Tryz.prog Tryz.f66 [tF 0 [0,1],tF 1 [4]] []
theorem aKG:aAl.Is Tryz.prog 66:=aQ Tryz.func66 (by kernel_rfl)
noncomputable def aHZ:FnT:=cl Tryz.prog Tryz.f67 [tF 0 [1],tF 1 [2]] []
theorem aKz:aHZ.Is Tryz.prog 67:=aQ Tryz.func67 (by kernel_rfl)
noncomputable def aE0:FnT:=cl Tryz.prog Tryz.f76 [tF 0 [1,2,3],tF 1 [6]] []
theorem aJz:aE0.Is Tryz.prog 76:=aQ Tryz.func76 (by kernel_rfl)
noncomputable def aAF:FnT:=cl Tryz.prog Tryz.f83 [tF 0 [0],tF 1 [2],tF 2 [2]] []
theorem aJE:aAF.Is Tryz.prog 83:=aQ Tryz.func83 (by kernel_rfl)
noncomputable def aEf:FnT:=cl Tryz.prog Tryz.f84 [tF 0 [0,1],tF 1 [0,1,6],tF 2 [0],tF 3 [0,10],tF 4 [0],tF 5 [4]] []
theorem aK1:aEf.Is Tryz.prog 84:=aQ Tryz.func84 (by kernel_rfl)
noncomputable def aCA:FnT:=cl Tryz.prog Tryz.f85 [tF 0 [0,1],tF 1 [0,1,7,8],tF 2 [0,1,7,8,9],tF 3 [0,1,5,7,8],tF 4 [0,1,5,7,8,16],tF 5 [4],tF 6 [0,1,7,8],tF 7 [4]] [(2,⟨[0,1,7,8],true,[⟨false,8,0,20008,0⟩],[]⟩)]
theorem aIO:aCA.Is Tryz.prog 85:=aQ Tryz.func85 (by kernel_rfl)
noncomputable def aH2:FnT:=cl Tryz.prog Tryz.f86 [tF 0 [1,2,4],tF 1 [1,2,4,8],tF 2 [1,2,4,8,18],tF 3 [4,5,6],tF 4 [1,2,4,9],tF 5 [2,4,9,21,22,23],tF 6 [2,4,9,21,22,23,24],tF 7 [2,4,9,11,21,22,23],tF 8 [2,4,9,11,21,22,23,32],tF 9 [4,5,6],tF 10 [2,4,9,21,22,23],tF 11 [2,4,9,21,22,23],tF 12 [4,5,6]] [(6,⟨[2,4,9,21,22,23],true,[⟨false,9,0,20009,0⟩,⟨false,21,0,20021,0⟩,⟨false,23,0,20023,0⟩,⟨true,4,0,30400,0⟩,⟨true,4,1,30401,0⟩],[]⟩)]
theorem aKg:aH2.Is Tryz.prog 86:=aQ Tryz.func86 (by kernel_rfl)
noncomputable def aDS:FnT:=cl Tryz.prog Tryz.f87 [tF 0 [1,2],tF 1 [4]] []
theorem aKK:aDS.Is Tryz.prog 87:=aQ Tryz.func87 (by kernel_rfl)
noncomputable def aCx:FnT:=cl Tryz.prog Tryz.f88 [tF 0 [0,1],tF 1 [0,1,10],tF 2 [0,1],tF 3 [0,5,6],tF 4 [0,6,26],tF 5 [0,6],tF 6 [0,7],tF 7 [7,8],tF 8 [7,8,37],tF 9 [7,8],tF 10 [4],tF 1100041 [],tF 1100044 []] [(8,⟨[7,8],true,[⟨false,7,0,20007,0⟩,⟨false,8,0,20008,0⟩],[]⟩)]
theorem aLt:aCx.Is Tryz.prog 88:=aQ Tryz.func88 (by kernel_rfl)
noncomputable def aFC:FnT:=cl Tryz.prog Tryz.f90 [tF 0 [0,1],tF 1 [4]] []
theorem aIJ:aFC.Is Tryz.prog 90:=aQ Tryz.func90 (by kernel_rfl)
noncomputable def avd:FnT:=cl Tryz.prog Tryz.f108 [tF 0 [0],tF 1 [0,7],tF 2 [2],tF 3 [3],tF 4 [3,4],tF 5 [3,4,17],tF 6 [3],tF 7 [2]] []
theorem aGf:avd.Is Tryz.prog 108:=aQ Tryz.func108 (by kernel_rfl)
noncomputable def avE:FnT:=cl Tryz.prog Tryz.f109 [tF 0 [0],tF 1 [2]] []
theorem aD3:avE.Is Tryz.prog 109:=aQ Tryz.func109 (by kernel_rfl)
noncomputable def avt:FnT:=cl Tryz.prog Tryz.f110 [tF 0 [1],tF 1 [1,11],tF 2 [2,3],tF 3 [1,13,14,15],tF 4 [1,13,14,15,16],tF 5 [1,4,5,13,14,15],tF 6 [1,4,5,13,14,15,20],tF 7 [2,3],tF 8 [1,4,13,14,15,25],tF 9 [2,3],tF 10 [1,13,14,15],tF 11 [1,37],tF 12 [2,3],tF 13 [1,39,40,41],tF 14 [1,39,40,41,42],tF 15 [1,6,7,39,40,41],tF 16 [1,6,39,40,41,63],tF 17 [2,3],tF 18 [1,39,40,41],tF 19 [2,3]] [(4,⟨[1,13,14,15],true,[⟨false,13,0,20013,0⟩,⟨false,15,0,20015,0⟩],[]⟩),(14,⟨[1,39,40,41],true,[⟨false,39,0,20039,0⟩,⟨false,41,0,20041,0⟩],[]⟩)]
theorem aGz:avt.Is Tryz.prog 110:=aQ Tryz.func110 (by kernel_rfl)
noncomputable def avM:FnT:=cl Tryz.prog Tryz.f111 [tF 0 [0],tF 1 [0,3],tF 2 [3,6,7,8],tF 3 [3,6,7,8,9],tF 4 [3,4,5,6,7,8],tF 5 [3,4,6,7,8,13],tF 6 [3,6,7,8],tF 7 [3,6,7,8],tF 8 [2]] [(3,⟨[3,6,7,8],true,[⟨false,3,0,20003,0⟩,⟨false,6,0,20006,0⟩,⟨false,8,0,20008,0⟩],[]⟩)]
theorem aGM:avM.Is Tryz.prog 111:=aQ Tryz.func111 (by kernel_rfl)
noncomputable def avX:FnT:=cl Tryz.prog Tryz.f112 [tF 0 [2,3],tF 1 [4]] []
theorem aAW:avX.Is Tryz.prog 112:=aQ Tryz.func112 (by kernel_rfl)
noncomputable def avA:FnT:=cl Tryz.prog Tryz.f113 [tF 0 [0,1],tF 1 [6,7],tF 2 [4,5],tF 3 [8,9],tF 4 [4,5]] []
theorem aEA:avA.Is Tryz.prog 113:=aQ Tryz.func113 (by kernel_rfl)
noncomputable def avI:FnT:=cl Tryz.prog Tryz.f138 [tF 0 [0,1],tF 1 [4]] []
theorem aDP:avI.Is Tryz.prog 138:=aQ Tryz.func138 (by kernel_rfl)
noncomputable def avo:FnT:=cl Tryz.prog Tryz.f141 [tF 0 [0],tF 1 [0,7,8,9],tF 2 [0,7,8,9,10],tF 3 [0,3,4,7,8,9],tF 4 [0,3,4,5,7,8,9],tF 5 [0,7,8,9,45],tF 6 [2],tF 7 [0,7,8,9],tF 8 [2]] [(2,⟨[0,7,8,9],true,[⟨false,7,0,20007,0⟩,⟨false,9,0,20009,0⟩],[]⟩)]
theorem aId:avo.Is Tryz.prog 141:=aQ Tryz.func141 (by kernel_rfl)
noncomputable def avz:FnT:=cl Tryz.prog Tryz.f142 [tF 0 [0,1],tF 1 [4]] []
theorem aFz:avz.Is Tryz.prog 142:=aQ Tryz.func142 (by kernel_rfl)
noncomputable def av9:FnT:=cl Tryz.prog Tryz.f143 [tF 0 [0,1],tF 1 [0,1,7,8],tF 2 [0,1,7,8,9],tF 3 [0,1,5,7,8],tF 4 [0,1,5,7,8,16],tF 5 [4],tF 6 [0,1,7,8],tF 7 [4]] [(2,⟨[0,1,7,8],true,[⟨false,8,0,20008,0⟩],[]⟩)]
theorem aGb:av9.Is Tryz.prog 143:=aQ Tryz.func143 (by kernel_rfl)
noncomputable def avx:FnT:=cl Tryz.prog Tryz.f144 [tF 0 [1,2],tF 1 [3]] []
theorem aAj:avx.Is Tryz.prog 144:=aQ Tryz.func144 (by kernel_rfl)
noncomputable def avG:FnT:=cl Tryz.prog Tryz.f145 [tF 0 [0,1],tF 1 [4]] []
theorem aAR:avG.Is Tryz.prog 145:=aQ Tryz.func145 (by kernel_rfl)
noncomputable def ava:FnT:=cl Tryz.prog Tryz.f146 [tF 0 [0,1],tF 1 [6],tF 2 [4,5]] []
theorem aA9:ava.Is Tryz.prog 146:=aQ Tryz.func146 (by kernel_rfl)
noncomputable def ave:FnT:=cl Tryz.prog Tryz.f147 [tF 0 [0,1],tF 1 [0,1,6],tF 2 [0,1,6,7],tF 3 [0,1,6,7,8],tF 4 [0,1,6,7,8,9],tF 5 [0,1,6,7,8,9,10],tF 6 [0,1,6,7,9,11],tF 7 [0,1,6,7,9,11,12],tF 8 [0,1,6,7,9,12,13],tF 9 [0,1,7,9,12,13],tF 10 [0,1,4],tF 11 [4,5]] []
theorem aFn:ave.Is Tryz.prog 147:=aQ Tryz.func147 (by kernel_rfl)
noncomputable def avO:FnT:=cl Tryz.prog Tryz.f169 [tF 0 [0,1],tF 1 [0,1,7,8],tF 2 [0,1,7,8,9],tF 3 [0,1,5,7,8],tF 4 [0,1,5,7,8,16],tF 5 [4],tF 6 [0,1,7,8],tF 7 [4]] [(2,⟨[0,1,7,8],true,[⟨false,8,0,20008,0⟩],[]⟩)]
theorem aE5:avO.Is Tryz.prog 169:=aQ Tryz.func169 (by kernel_rfl)
def ag7:List bp:=[
 ⟨(some 6),(.faddr 0 (.tmp 1)),none⟩,
 ⟨(some 7),(.faddr 0 (.tmp 6)),none⟩,
 ⟨(some 8),(.load false 1 (.tmp 7)),none⟩,
 ⟨(some 9),(.len (.tmp 8)),none⟩,
 ⟨(some 10),(.mv (.const (.int .i64 0))),none⟩]
def nR:List bp:=[
 ⟨(some 11),(.bin .lss 3 (.tmp 10) (.tmp 9)),none⟩]
def sn:List bp:=[
 ⟨(some 12),(.mv (.tmp 10)),none⟩,
 ⟨(some 4),(.mv (.tmp 12)),none⟩]
def sB:List bp:=[
 ⟨(some 13),(.load false 1 (.tmp 2)),none⟩,
 ⟨(some 14),(.mv (.tmp 4)),none⟩,
 ⟨(some 15),(.call 90 [(.tmp 13),(.tmp 14)]),none⟩,
 ⟨(some 5),(.mv (.tmp 15)),none⟩]
def r7:List bp:=[
 ⟨(some 16),(.load true 2 (.tmp 1)),none⟩,
 ⟨(some 17),(.mv (.tmp 5)),none⟩,
 ⟨(some 18),(.call 87 [(.tmp 16),(.tmp 17)]),none⟩,
 ⟨(some 19),(.mv (.tmp 18)),none⟩,
 ⟨(some 20),(.mv (.tmp 0)),(some (19,true))⟩,
 ⟨(some 21),(.mv (.tmp 4)),(some (19,true))⟩,
 ⟨(some 22),(.mv (.tmp 5)),(some (19,true))⟩,
 ⟨(some 23),(.calld (.tmp 20) [(.tmp 21),(.tmp 22)]),(some (19,true))⟩,
 ⟨(some 24),(.pure (oB (.unOp .not 4 (.tmp 23)) 4)),(some (19,true))⟩,
 ⟨(some 25),(.pick (.tmp 19) (.tmp 24) (.const (.bool false))),none⟩]
def sA:List bp:=[
 ⟨(some 26),(.bin .add 3 (.tmp 10) (.const (.int .i64 1))),none⟩,
 ⟨(some 10),(.mv (.tmp 26)),none⟩]
def aB2:List (Nat × bX):=[(0,⟨[0,1,2,9,10],false,[],[]⟩),(1,⟨[0,1,2,9,10,11],false,[],[]⟩),(2,⟨[0,1,2,4,9,10],false,[],[]⟩),(3,⟨[0,1,2,4,5,9,10],false,[],[]⟩),(4,⟨[0,1,2,9,10,25],false,[],[]⟩),(5,⟨[0,1,2,9,10],false,[],[]⟩)]
def aHP:List (Nat × bX):=[(1,⟨[0,1,2,9,10],true,[⟨false,10,0,20010,0⟩],[]⟩)]
def awp:aq:=(.seq (.region ag7 [] (some ⟨[0,1,2,9,10],false,[],[]⟩)) (.block 0 (.loop (some ⟨[0,1,2,9,10],true,[⟨false,10,0,20010,0⟩],[]⟩) (.seq (.region nR [] (some ⟨[0,1,2,9,10,11],false,[],[]⟩)) (.seq (.cond (.tmp 11) .skip (.exit 0)) (.seq (.block 1 (.seq (.region sn [] (some ⟨[0,1,2,4,9,10],false,[],[]⟩)) (.seq (.region sB [] (some ⟨[0,1,2,4,5,9,10],false,[],[]⟩)) (.seq (.region r7 [] (some ⟨[0,1,2,9,10,25],false,[],[]⟩)) (.cond (.tmp 25) .ret .skip))))) (.region sA [] (some ⟨[0,1,2,9,10],false,[],[]⟩))))))))
def aBa:List dZ:=[]
def aLo:FnT:=⟨27,aB2,aHP,awp,aBa⟩
theorem aCI:tI Tryz.prog 89 27 aB2 aHP awp aBa:=⟨Tryz.f89,Tryz.func89,rfl,by kernel_rfl,by kernel_rfl,by kernel_rfl⟩
noncomputable def tbl:List (Nat × FnT):=[(6,ft6),(18,aAi),(19,aB9),(20,aBU),(21,aAA),(22,aEU),(23,aDN),(24,aDe),(25,aHn),(26,aH5),(27,aC4),(29,az3),(38,aFo),(46,aEg),(47,aHz),(48,aG9),(49,aBk),(50,aEv),(51,aHm),(52,aEi),(53,aFu),(54,aCd),(55,aFs),(56,aBK),(57,aAr),(58,aHH),(59,aEO),(60,aAG),(61,aFW),(62,aFi),(63,aBX),(64,aE6),(65,aGP),(66,aAl),(67,aHZ),(76,aE0),(83,aAF),(84,aEf),(85,aCA),(86,aH2),(87,aDS),(88,aCx),(90,aFC),(108,avd),(109,avE),(110,avt),(111,avM),(112,avX),(113,avA),(138,avI),(141,avo),(142,avz),(143,av9),(144,avx),(145,avG),(146,ava),(147,ave),(169,avO),(89,aLo)]
theorem aDz:Gy Tryz.prog tbl:=⟨is6,aI8,aI0,aKR,aJI,aJP,aJV,aIS,aJZ,aKC,aLm,aJO,aKn,aLu,aJL,aJ6,aLd,aJd,aKY,aKS,aJH,aKF,aKW,aK7,aLe,aJN,aJC,aKd,aKH,aKP,aJU,aKX,aK5,aKG,aKz,aJz,aJE,aK1,aIO,aKg,aKK,aLt,aIJ,aGf,aD3,aGz,aGM,aAW,aEA,aDP,aId,aFz,aGb,aAj,aAR,aA9,aFn,aE5,aCI,trivial⟩
end Go.AM
