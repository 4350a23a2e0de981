/- The code of the functions that the first examples of chapter 8 run. -/
import Derived.Test.YtffcelhcekillaaGreatAMc
import Derived.Test.YtffcelhcekillaaGreatProg
namespace Go.AM
open Go.Proofs
set_option maxRecDepth 100000
set_option linter.unusedVariables false
noncomputable def cu (P:Program)(fn:Func)(tr tl:List (Nat × bX)):FnT:=⟨fn.ntmps,tr,tl,(fn.body.bind (mk P fn.ntmps tr tl true)).getD .skip,(gW P fn.results.toList).getD []⟩
def FnT.Is (t:FnT)(P:Program)(f:Nat):Prop:=tE P f t.nt t.tr t.tl t.ac t.rs
def okF (P : Program) (fn : Func) (tr tl : List (Nat × bX)) : Bool := (fn.body.bind (mk P fn.ntmps tr tl true)).isSome && ((gW P fn.results.toList).isSome && !(fn.name == "runtime.NumGoroutine"))
theorem aQ {P:Program}{f:Nat}{fn:Func}{tr tl:List (Nat × bX)}(h:P.funcs[f]?=some fn)(hk:okF P fn tr tl=true):(cu P fn tr tl).Is P f:=by
 unfold okF at hk;simp only [Bool.and_eq_true] at hk;obtain⟨h1,h2,h3⟩:=hk;obtain⟨x,hx⟩:=Option.isSome_iff_exists.1 h1;obtain⟨y,hy⟩:=Option.isSome_iff_exists.1 h2;refine⟨fn,h,rfl,?_,?_,by simpa using h3⟩
 ·show fn.body.bind (mk P fn.ntmps tr tl true)=some ((fn.body.bind (mk P fn.ntmps tr tl true)).getD .skip)
  rw [hx];rfl
 ·show gW P fn.results.toList=some ((gW P fn.results.toList).getD [])
  rw [hy];rfl
noncomputable def ft6:FnT:=cu Tryz.prog Tryz.f6 [tF 0 [],tF 1 [1,2],tF 2 [1,2,3,4],tF 3 [1,2,3,4,5,7],tF 4 [1,2,3,4,5,7,8,9],tF 5 [1,2,3,4,5,7,8,9,10,11],tF 6 [0]] []
theorem is6:ft6.Is Tryz.prog 6:=aQ Tryz.func6 (by kernel_rfl)
noncomputable def aG4:FnT:=cu Tryz.prog Tryz.f18 [tF 0 [1],tF 1 [1,5],tF 2 [1,5,18],tF 3 [2,3],tF 4 [1,6],tF 5 [1,6,7],tF 6 [1,6,7,25],tF 8 [1,6,7],tF 9 [1,6,7,56],tF 10 [2,3],tF 7 [1,6,7],tF 11 [1,6,8],tF 12 [1,6,8,61],tF 14 [1,6,8],tF 13 [1,6,8],tF 15 [6,9],tF 16 [9,88,89,90],tF 17 [9,88,89,90,91],tF 18 [9,11,88,89,90],tF 19 [9,88,89,90],tF 20 [9,88,89,90],tF 21 [2,3]] [(6,⟨[1,6,7],true,[⟨false,6,0,20006,0⟩,⟨false,7,0,20007,0⟩],[]⟩),(12,⟨[1,6,8],true,[⟨false,6,0,20006,0⟩,⟨false,8,0,20008,0⟩],[]⟩),(17,⟨[9,88,89,90],true,[⟨false,9,0,20009,0⟩,⟨false,88,0,20088,0⟩,⟨false,90,0,20090,0⟩],[]⟩)]
theorem aJr:aG4.Is Tryz.prog 18:=aQ Tryz.func18 (by kernel_rfl)
noncomputable def aEA:FnT:=cu Tryz.prog Tryz.f19 [tF 0 [0],tF 1 [0]] []
theorem aJh:aEA.Is Tryz.prog 19:=aQ Tryz.func19 (by kernel_rfl)
noncomputable def aAv:FnT:=cu Tryz.prog Tryz.f20 [tF 0 [1],tF 1 [1,5],tF 2 [1,5,20],tF 3 [2,3],tF 4 [1,6],tF 5 [1,6,7],tF 6 [1,6,7,8],tF 7 [6,7,8,27,28,29],tF 8 [6,7,8,27,28,29,30],tF 9 [6,7,8,9,10,27,28,29],tF 10 [6,7,8,9,11,27,28,29],tF 11 [6,7,8,9,11,27,28,29,39],tF 12 [6,7,8,27,28,29],tF 13 [6,7,8,9,11,12,13,27,28,29],tF 15 [6,7,8,9,11,12,13,27,28,29,62],tF 16 [6,7,8,9,11,12,27,28,29,75],tF 17 [6,7,8,9,11,27,28,29],tF 18 [6,7,8,27,28,29],tF 19 [6,7,8,9,11,13,27,28,29,87],tF 20 [6,7,8,9,11,13,27,28,29,100],tF 21 [6,7,8,9,11,27,28,29],tF 22 [6,7,8,27,28,29],tF 14 [6,7,8,27,28,29],tF 23 [6,7,8,27,28,29],tF 24 [2,3]] [(8,⟨[6,7,8,27,28,29],true,[⟨false,6,0,20006,0⟩,⟨false,27,0,20027,0⟩,⟨false,29,0,20029,0⟩,⟨true,8,1,30801,0⟩],[]⟩)]
theorem aIY:aAv.Is Tryz.prog 20:=aQ Tryz.func20 (by kernel_rfl)
noncomputable def aFT:FnT:=cu Tryz.prog Tryz.f21 [tF 0 [0],tF 1 [0]] []
theorem aJW:aFT.Is Tryz.prog 21:=aQ Tryz.func21 (by kernel_rfl)
noncomputable def aE8:FnT:=cu Tryz.prog Tryz.f22 [tF 0 [2,3,4,5,6],tF 1 [4,5,6,7,8],tF 2 [4,5,6,7,8,22],tF 3 [4,5,6],tF 4 [4,5,6,7,9],tF 5 [4,5,6,7,9,34],tF 6 [4,5,6],tF 7 [4,5,6,7,9,10],(8,⟨[4,5,6,7,9,10,11],true,[],[]⟩),tF 9 [4,5,6,7,9,10,11,12],tF 10 [4,5,6,7,9,10,11,12,46],tF 11 [4,5,6,7,9,10,11,12,50],tF 12 [4,5,6,7,9,10,11,12,13,52],tF 13 [4,5,6,7,9,10,11,12,13,14],tF 14 [4,5,6,7,9,10,11,12,13,14,61],tF 15 [4,5,6,7,9,10,11,12],(16,⟨[4,5,6,7,9,10,11,67],true,[],[]⟩),tF 17 [4,5,6,7,9,10,11,12],tF 18 [4,5,6]] [(10,⟨[4,5,6,7,9,10,11,12],true,[⟨false,4,0,20004,0⟩,⟨false,5,0,20005,0⟩,⟨false,6,0,20006,0⟩,⟨false,9,0,20009,0⟩,⟨true,7,0,30700,0⟩,⟨true,7,1,30701,0⟩,⟨true,10,0,31000,0⟩,⟨true,11,0,31100,0⟩],[]⟩),(14,⟨[4,5,6,7,9,10,11,12],true,[⟨false,4,0,20004,0⟩,⟨false,5,0,20005,0⟩,⟨false,6,0,20006,0⟩,⟨false,9,0,20009,0⟩,⟨true,7,0,30700,0⟩,⟨true,7,1,30701,0⟩,⟨true,10,0,31000,0⟩,⟨true,11,0,31100,0⟩],[]⟩)]
theorem aJo:aE8.Is Tryz.prog 22:=aQ Tryz.func22 (by kernel_rfl)
noncomputable def aGb:FnT:=cu Tryz.prog Tryz.f23 [tF 0 [0],tF 1 [0]] []
theorem aKS:aGb.Is Tryz.prog 23:=aQ Tryz.func23 (by kernel_rfl)
noncomputable def aD6:FnT:=cu Tryz.prog Tryz.f24 [tF 0 [2,3,4],tF 1 [2,3,4,6],tF 2 [2,3,4,6,16],tF 3 [4,5],tF 4 [2,3,4,21],tF 5 [4,5],tF 6 [3,4,7,8],tF 7 [4,5]] []
theorem aKZ:aD6.Is Tryz.prog 24:=aQ Tryz.func24 (by kernel_rfl)
noncomputable def aBk:FnT:=cu Tryz.prog Tryz.f25 [tF 0 [2,3,4],tF 1 [2,3,4,6],tF 2 [2,3,4,6,14],tF 3 [4,5],tF 4 [4,5]] []
theorem aLr:aBk.Is Tryz.prog 25:=aQ Tryz.func25 (by kernel_rfl)
noncomputable def aHw:FnT:=cu Tryz.prog Tryz.f26 [tF 0 [0,1],tF 1 [0,1,10],tF 2 [4],tF 3 [0,1,5],tF 4 [0,1,5,14],tF 6 [0,1,5,25],tF 7 [4],tF 5 [0,1,5],tF 8 [4]] [(4,⟨[0,1,5],true,[⟨false,5,0,20005,0⟩],[]⟩)]
theorem aKN:aHw.Is Tryz.prog 26:=aQ Tryz.func26 (by kernel_rfl)
noncomputable def aIl:FnT:=cu Tryz.prog Tryz.f27 [tF 0 [0,1],tF 1 [0,1,10],tF 2 [4],tF 3 [0,1,5],tF 4 [0,1,5,14],tF 6 [0,1,5,25],tF 7 [4],tF 5 [0,1,5],tF 8 [4]] [(4,⟨[0,1,5],true,[⟨false,5,0,20005,0⟩],[]⟩)]
theorem aKG:aIl.Is Tryz.prog 27:=aQ Tryz.func27 (by kernel_rfl)
noncomputable def aH3:FnT:=cu Tryz.prog Tryz.f29 [tF 0 [0,1,2],tF 1 [6]] []
theorem aJU:aH3.Is Tryz.prog 29:=aQ Tryz.func29 (by kernel_rfl)
noncomputable def aAm:FnT:=cu Tryz.prog Tryz.f38 [tF 0 [1,2,3],tF 1 [3,7],tF 2 [6],tF 3 [13],tF 4 [6],tF 5 [6]] []
theorem aII:aAm.Is Tryz.prog 38:=aQ Tryz.func38 (by kernel_rfl)
noncomputable def aCc:FnT:=cu Tryz.prog Tryz.f46 [tF 0 [1],tF 1 [1,4],tF 2 [1,4,11],tF 3 [2,3],tF 4 [1,13],tF 5 [2,3],tF 6 [1,18],tF 7 [2,3],tF 8 [1,24,25,26],tF 9 [1,24,25,26,27],tF 10 [1,5,6,24,25,26],tF 11 [1,5,6,24,25,26,31],tF 12 [2,3],tF 13 [1,5,24,25,26,43],tF 14 [2,3],tF 15 [1,24,25,26],tF 16 [2,3]] [(9,⟨[1,24,25,26],true,[⟨false,24,0,20024,0⟩,⟨false,26,0,20026,0⟩],[]⟩)]
theorem aI4:aCc.Is Tryz.prog 46:=aQ Tryz.func46 (by kernel_rfl)
noncomputable def aE4:FnT:=cu Tryz.prog Tryz.f47 [tF 0 [1],tF 1 [1,3],tF 2 [1,3,9,10,11],tF 3 [1,3,9,10,11,12],tF 4 [1,3,5,9,10,11],tF 5 [1,3,9,10,11],tF 6 [1,3,9,10,11],tF 7 [2]] [(3,⟨[1,3,9,10,11],true,[⟨false,3,0,20003,0⟩,⟨false,9,0,20009,0⟩,⟨false,11,0,20011,0⟩],[]⟩)]
theorem aI1:aE4.Is Tryz.prog 47:=aQ Tryz.func47 (by kernel_rfl)
noncomputable def aFj:FnT:=cu Tryz.prog Tryz.f48 [tF 0 [2,3,4],tF 1 [4]] []
theorem aIW:aFj.Is Tryz.prog 48:=aQ Tryz.func48 (by kernel_rfl)
noncomputable def aGB:FnT:=cu Tryz.prog Tryz.f49 [tF 0 [2,3,4,6],tF 1 [3,4,6,7],tF 2 [6]] []
theorem aJv:aGB.Is Tryz.prog 49:=aQ Tryz.func49 (by kernel_rfl)
noncomputable def aG8:FnT:=cu Tryz.prog Tryz.f50 [tF 0 [1],tF 1 [2]] []
theorem aKb:aG8.Is Tryz.prog 50:=aQ Tryz.func50 (by kernel_rfl)
noncomputable def aD1:FnT:=cu Tryz.prog Tryz.f51 [tF 0 [2,3,4,6],tF 1 [3,4,6,7],tF 2 [6]] []
theorem aKo:aD1.Is Tryz.prog 51:=aQ Tryz.func51 (by kernel_rfl)
noncomputable def aHT:FnT:=cu Tryz.prog Tryz.f52 [tF 0 [1],tF 1 [1,7],tF 2 [2,3],tF 3 [1,12],tF 4 [2,3],tF 5 [18,19,20],tF 6 [18,19,20,21],tF 7 [4,5,18,19,20],tF 8 [4,6,18,19,20],tF 9 [4,6,18,19,20,27],tF 10 [2,3],tF 11 [4,18,19,20,37],tF 12 [2,3],tF 13 [18,19,20],tF 14 [2,3]] [(6,⟨[18,19,20],true,[⟨false,18,0,20018,0⟩,⟨false,20,0,20020,0⟩],[]⟩)]
theorem aKQ:aHT.Is Tryz.prog 52:=aQ Tryz.func52 (by kernel_rfl)
noncomputable def aHI:FnT:=cu Tryz.prog Tryz.f53 [tF 0 [0],tF 1 [0,7],tF 2 [0],tF 3 [0,3],tF 4 [0,3,4],tF 5 [0,3,4,15],tF 7 [0,3,4],tF 6 [0,3,4],tF 8 [2]] [(5,⟨[0,3,4],true,[⟨false,3,0,20003,0⟩,⟨false,4,0,20004,0⟩],[]⟩)]
theorem aLn:aHI.Is Tryz.prog 53:=aQ Tryz.func53 (by kernel_rfl)
noncomputable def aF3:FnT:=cu Tryz.prog Tryz.f54 [tF 0 [0],tF 1 [0,7],tF 2 [0],tF 3 [0,3],tF 4 [0,3,4],tF 5 [0,3,4,15],tF 7 [0,3,4],tF 6 [0,3,4],tF 8 [2]] [(5,⟨[0,3,4],true,[⟨false,3,0,20003,0⟩,⟨false,4,0,20004,0⟩],[]⟩)]
theorem aLc:aF3.Is Tryz.prog 54:=aQ Tryz.func54 (by kernel_rfl)
noncomputable def aCz:FnT:=cu Tryz.prog Tryz.f55 [tF 0 [1,2,3,6],tF 1 [1,2,3,6,7],tF 2 [1,2,3,6,7,8],tF 3 [1,2,3,6,7,8,17,18,19],tF 4 [1,2,3,6,7,8,17,18,19,20],tF 5 [1,2,3,6,7,8,9,10,17,18,19],tF 6 [1,2,3,6,7,8,9,17,18,19,26],tF 7 [1,2,3,6,7,8,17,18,19],tF 8 [1,2,3,6,7,8,17,18,19],tF 9 [6]] [(4,⟨[1,2,3,6,7,8,17,18,19],true,[⟨false,7,0,20007,0⟩,⟨false,8,0,20008,0⟩,⟨false,17,0,20017,0⟩,⟨false,19,0,20019,0⟩],[]⟩)]
theorem aJa:aCz.Is Tryz.prog 55:=aQ Tryz.func55 (by kernel_rfl)
noncomputable def aCT:FnT:=cu Tryz.prog Tryz.f56 [tF 0 [0,1,2],tF 1 [4]] []
theorem aKM:aCT.Is Tryz.prog 56:=aQ Tryz.func56 (by kernel_rfl)
noncomputable def aEb:FnT:=cu Tryz.prog Tryz.f57 [tF 0 [0,1,2],tF 1 [4]] []
theorem aIU:aEb.Is Tryz.prog 57:=aQ Tryz.func57 (by kernel_rfl)
noncomputable def aFB:FnT:=cu Tryz.prog Tryz.f58 [tF 0 [2,3,4],tF 1 [4,6,7,8],tF 2 [4,6,7,8,22],tF 3 [4,5],tF 4 [4,6,9],tF 5 [4,9,44],tF 6 [4,5],tF 7 [4,5]] []
theorem aJF:aFB.Is Tryz.prog 58:=aQ Tryz.func58 (by kernel_rfl)
noncomputable def aDZ:FnT:=cu Tryz.prog Tryz.f59 [tF 0 [1,2,4],tF 1 [1,2,4,5],tF 2 [1,2,4,5],tF 3 [2,4,5,6],tF 4 [2,4,5,6,24],tF 5 [2,4,5,6,7],tF 6 [2,4,5,6,7],tF 7 [2,4,5,6,7,32],tF 8 [2,4,5,6,7,9],tF 9 [2,4,5,6,7,9,39],tF 10 [2,4,5,6,7,9],tF 11 [2,4,5,6,7],tF 12 [4],tF 1000029 []] [(4,⟨[2,4,5,6],true,[⟨false,4,0,20004,0⟩,⟨true,5,0,30500,0⟩,⟨true,6,0,30600,0⟩],[]⟩),(9,⟨[2,4,5,6,7],true,[⟨false,4,0,20004,0⟩,⟨true,5,0,30500,0⟩,⟨true,6,0,30600,0⟩],[]⟩)]
theorem aJL:aDZ.Is Tryz.prog 59:=aQ Tryz.func59 (by kernel_rfl)
noncomputable def aHe:FnT:=cu Tryz.prog Tryz.f60 [tF 0 [2,3],tF 1 [4]] []
theorem aKA:aHe.Is Tryz.prog 60:=aQ Tryz.func60 (by kernel_rfl)
noncomputable def az4:FnT:=cu Tryz.prog Tryz.f61 [tF 0 [0],tF 1 [5,6,7],tF 2 [5,6,7,8],tF 3 [4,5,6,7],tF 4 [4,5,6,7,12],tF 5 [2],tF 6 [5,6,7],tF 7 [2]] [(2,⟨[5,6,7],true,[⟨false,5,0,20005,0⟩,⟨false,7,0,20007,0⟩],[]⟩)]
theorem aKR:az4.Is Tryz.prog 61:=aQ Tryz.func61 (by kernel_rfl)
noncomputable def aCx:FnT:=cu Tryz.prog Tryz.f62 [tF 0 [1],tF 1 [18],tF 2 [2],tF 3 [2]] []
theorem aI0:aCx.Is Tryz.prog 62:=aQ Tryz.func62 (by kernel_rfl)
noncomputable def aIr:FnT:=cu Tryz.prog Tryz.f63 [tF 0 [1],tF 1 [2]] []
theorem aK2:aIr.Is Tryz.prog 63:=aQ Tryz.func63 (by kernel_rfl)
noncomputable def aER:FnT:=cu Tryz.prog Tryz.f64 [tF 0 [1],tF 1 [2,3]] []
theorem aJu:aER.Is Tryz.prog 64:=aQ Tryz.func64 (by kernel_rfl)
noncomputable def aBP:FnT:=cu Tryz.prog Tryz.f65 [tF 0 [0,1],tF 1 [4]] []
theorem aK0:aBP.Is Tryz.prog 65:=aQ Tryz.func65 (by kernel_rfl)
noncomputable def aGw:FnT:=cu Tryz.prog Tryz.f66 [tF 0 [0,1],tF 1 [4]] []
theorem aJ3:aGw.Is Tryz.prog 66:=aQ Tryz.func66 (by kernel_rfl)
noncomputable def aHh:FnT:=cu Tryz.prog Tryz.f67 [tF 0 [1],tF 1 [2]] []
theorem aIM:aHh.Is Tryz.prog 67:=aQ Tryz.func67 (by kernel_rfl)
noncomputable def aIo:FnT:=cu Tryz.prog Tryz.f76 [tF 0 [1,2,3],tF 1 [6]] []
theorem aJp:aIo.Is Tryz.prog 76:=aQ Tryz.func76 (by kernel_rfl)
noncomputable def aAG:FnT:=cu Tryz.prog Tryz.f83 [tF 0 [0],tF 1 [2],tF 2 [2]] []
theorem aKd:aAG.Is Tryz.prog 83:=aQ Tryz.func83 (by kernel_rfl)
noncomputable def aHC:FnT:=cu Tryz.prog Tryz.f84 [tF 0 [0,1],tF 1 [0,1,6],tF 2 [0],tF 3 [0,10],tF 4 [0],tF 5 [4]] []
theorem aIJ:aHC.Is Tryz.prog 84:=aQ Tryz.func84 (by kernel_rfl)
noncomputable def aHB:FnT:=cu Tryz.prog Tryz.f85 [tF 0 [0,1],tF 1 [0,1,7,8],tF 2 [0,1,7,8,9],tF 3 [0,1,5,7,8],tF 4 [0,1,5,7,8,16],tF 5 [4],tF 6 [0,1,7,8],tF 7 [4]] [(2,⟨[0,1,7,8],true,[⟨false,8,0,20008,0⟩],[]⟩)]
theorem aJH:aHB.Is Tryz.prog 85:=aQ Tryz.func85 (by kernel_rfl)
noncomputable def aC9:FnT:=cu Tryz.prog Tryz.f86 [tF 0 [1,2,4],tF 1 [1,2,4,8],tF 2 [1,2,4,8,18],tF 3 [4,5,6],tF 4 [1,2,4,9],tF 5 [2,4,9,21,22,23],tF 6 [2,4,9,21,22,23,24],tF 7 [2,4,9,11,21,22,23],tF 8 [2,4,9,11,21,22,23,32],tF 9 [4,5,6],tF 10 [2,4,9,21,22,23],tF 11 [2,4,9,21,22,23],tF 12 [4,5,6]] [(6,⟨[2,4,9,21,22,23],true,[⟨false,9,0,20009,0⟩,⟨false,21,0,20021,0⟩,⟨false,23,0,20023,0⟩,⟨true,4,0,30400,0⟩,⟨true,4,1,30401,0⟩],[]⟩)]
theorem aKx:aC9.Is Tryz.prog 86:=aQ Tryz.func86 (by kernel_rfl)
noncomputable def aDY:FnT:=cu Tryz.prog Tryz.f87 [tF 0 [1,2],tF 1 [4]] []
theorem aJk:aDY.Is Tryz.prog 87:=aQ Tryz.func87 (by kernel_rfl)
noncomputable def aDC:FnT:=cu Tryz.prog Tryz.f88 [tF 0 [0,1],tF 1 [0,1,10],tF 2 [0,1],tF 3 [0,5,6],tF 4 [0,6,26],tF 5 [0,6],tF 6 [0,7],tF 7 [7,8],tF 8 [7,8,37],tF 9 [7,8],tF 10 [4],tF 1100041 [],tF 1100044 []] [(8,⟨[7,8],true,[⟨false,7,0,20007,0⟩,⟨false,8,0,20008,0⟩],[]⟩)]
theorem aIX:aDC.Is Tryz.prog 88:=aQ Tryz.func88 (by kernel_rfl)
noncomputable def aEJ:FnT:=cu Tryz.prog Tryz.f90 [tF 0 [0,1],tF 1 [4]] []
theorem aJi:aEJ.Is Tryz.prog 90:=aQ Tryz.func90 (by kernel_rfl)
noncomputable def av4:FnT:=cu Tryz.prog Tryz.f108 [tF 0 [0],tF 1 [0,7],tF 2 [2],tF 3 [3],tF 4 [3,4],tF 5 [3,4,17],tF 6 [3],tF 7 [2]] []
theorem aCZ:av4.Is Tryz.prog 108:=aQ Tryz.func108 (by kernel_rfl)
noncomputable def avV:FnT:=cu Tryz.prog Tryz.f109 [tF 0 [0],tF 1 [2]] []
theorem aEr:avV.Is Tryz.prog 109:=aQ Tryz.func109 (by kernel_rfl)
noncomputable def avy:FnT:=cu Tryz.prog Tryz.f110 [tF 0 [1],tF 1 [1,11],tF 2 [2,3],tF 3 [1,13,14,15],tF 4 [1,13,14,15,16],tF 5 [1,4,5,13,14,15],tF 6 [1,4,5,13,14,15,20],tF 7 [2,3],tF 8 [1,4,13,14,15,25],tF 9 [2,3],tF 10 [1,13,14,15],tF 11 [1,37],tF 12 [2,3],tF 13 [1,39,40,41],tF 14 [1,39,40,41,42],tF 15 [1,6,7,39,40,41],tF 16 [1,6,39,40,41,63],tF 17 [2,3],tF 18 [1,39,40,41],tF 19 [2,3]] [(4,⟨[1,13,14,15],true,[⟨false,13,0,20013,0⟩,⟨false,15,0,20015,0⟩],[]⟩),(14,⟨[1,39,40,41],true,[⟨false,39,0,20039,0⟩,⟨false,41,0,20041,0⟩],[]⟩)]
theorem aBC:avy.Is Tryz.prog 110:=aQ Tryz.func110 (by kernel_rfl)
noncomputable def avH:FnT:=cu Tryz.prog Tryz.f111 [tF 0 [0],tF 1 [0,3],tF 2 [3,6,7,8],tF 3 [3,6,7,8,9],tF 4 [3,4,5,6,7,8],tF 5 [3,4,6,7,8,13],tF 6 [3,6,7,8],tF 7 [3,6,7,8],tF 8 [2]] [(3,⟨[3,6,7,8],true,[⟨false,3,0,20003,0⟩,⟨false,6,0,20006,0⟩,⟨false,8,0,20008,0⟩],[]⟩)]
theorem aCI:avH.Is Tryz.prog 111:=aQ Tryz.func111 (by kernel_rfl)
noncomputable def av7:FnT:=cu Tryz.prog Tryz.f112 [tF 0 [2,3],tF 1 [4]] []
theorem aEC:av7.Is Tryz.prog 112:=aQ Tryz.func112 (by kernel_rfl)
noncomputable def avq:FnT:=cu Tryz.prog Tryz.f113 [tF 0 [0,1],tF 1 [6,7],tF 2 [4,5],tF 3 [8,9],tF 4 [4,5]] []
theorem aCh:avq.Is Tryz.prog 113:=aQ Tryz.func113 (by kernel_rfl)
noncomputable def au9:FnT:=cu Tryz.prog Tryz.f138 [tF 0 [0,1],tF 1 [4]] []
theorem aCP:au9.Is Tryz.prog 138:=aQ Tryz.func138 (by kernel_rfl)
noncomputable def avk:FnT:=cu Tryz.prog Tryz.f141 [tF 0 [0],tF 1 [0,7,8,9],tF 2 [0,7,8,9,10],tF 3 [0,3,4,7,8,9],tF 4 [0,3,4,5,7,8,9],tF 5 [0,7,8,9,45],tF 6 [2],tF 7 [0,7,8,9],tF 8 [2]] [(2,⟨[0,7,8,9],true,[⟨false,7,0,20007,0⟩,⟨false,9,0,20009,0⟩],[]⟩)]
theorem aAJ:avk.Is Tryz.prog 141:=aQ Tryz.func141 (by kernel_rfl)
noncomputable def avx:FnT:=cu Tryz.prog Tryz.f142 [tF 0 [0,1],tF 1 [4]] []
theorem aF4:avx.Is Tryz.prog 142:=aQ Tryz.func142 (by kernel_rfl)
noncomputable def ava:FnT:=cu Tryz.prog Tryz.f143 [tF 0 [0,1],tF 1 [0,1,7,8],tF 2 [0,1,7,8,9],tF 3 [0,1,5,7,8],tF 4 [0,1,5,7,8,16],tF 5 [4],tF 6 [0,1,7,8],tF 7 [4]] [(2,⟨[0,1,7,8],true,[⟨false,8,0,20008,0⟩],[]⟩)]
theorem aEY:ava.Is Tryz.prog 143:=aQ Tryz.func143 (by kernel_rfl)
noncomputable def avb:FnT:=cu Tryz.prog Tryz.f144 [tF 0 [1,2],tF 1 [3]] []
theorem aAy:avb.Is Tryz.prog 144:=aQ Tryz.func144 (by kernel_rfl)
noncomputable def avr:FnT:=cu Tryz.prog Tryz.f145 [tF 0 [0,1],tF 1 [4]] []
theorem aIn:avr.Is Tryz.prog 145:=aQ Tryz.func145 (by kernel_rfl)
noncomputable def avw:FnT:=cu Tryz.prog Tryz.f146 [tF 0 [0,1],tF 1 [6],tF 2 [4,5]] []
theorem aEO:avw.Is Tryz.prog 146:=aQ Tryz.func146 (by kernel_rfl)
noncomputable def avm:FnT:=cu Tryz.prog Tryz.f147 [tF 0 [0,1],tF 1 [0,1,6],tF 2 [0,1,6,7],tF 3 [0,1,6,7,8],tF 4 [0,1,6,7,8,9],tF 5 [0,1,6,7,8,9,10],tF 6 [0,1,6,7,9,11],tF 7 [0,1,6,7,9,11,12],tF 8 [0,1,6,7,9,12,13],tF 9 [0,1,7,9,12,13],tF 10 [0,1,4],tF 11 [4,5]] []
theorem aFU:avm.Is Tryz.prog 147:=aQ Tryz.func147 (by kernel_rfl)
noncomputable def avW:FnT:=cu Tryz.prog Tryz.f169 [tF 0 [0,1],tF 1 [0,1,7,8],tF 2 [0,1,7,8,9],tF 3 [0,1,5,7,8],tF 4 [0,1,5,7,8,16],tF 5 [4],tF 6 [0,1,7,8],tF 7 [4]] [(2,⟨[0,1,7,8],true,[⟨false,8,0,20008,0⟩],[]⟩)]
theorem aIf:avW.Is Tryz.prog 169:=aQ Tryz.func169 (by kernel_rfl)
def aj1:List bj:=[
 ⟨(some 6),(.faddr 0 (.tmp 1)),none⟩,
 ⟨(some 7),(.faddr 0 (.tmp 6)),none⟩,
 ⟨(some 8),(.load false 1 (.tmp 7)),none⟩,
 ⟨(some 9),(.len (.tmp 8)),none⟩,
 ⟨(some 10),(.mv (.const (.int .i64 0))),none⟩]
def nN:List bj:=[
 ⟨(some 11),(.bin .lss 3 (.tmp 10) (.tmp 9)),none⟩]
def se:List bj:=[
 ⟨(some 12),(.mv (.tmp 10)),none⟩,
 ⟨(some 4),(.mv (.tmp 12)),none⟩]
def rV:List bj:=[
 ⟨(some 13),(.load false 1 (.tmp 2)),none⟩,
 ⟨(some 14),(.mv (.tmp 4)),none⟩,
 ⟨(some 15),(.call 90 [(.tmp 13),(.tmp 14)]),none⟩,
 ⟨(some 5),(.mv (.tmp 15)),none⟩]
def r4:List bj:=[
 ⟨(some 16),(.load true 2 (.tmp 1)),none⟩,
 ⟨(some 17),(.mv (.tmp 5)),none⟩,
 ⟨(some 18),(.call 87 [(.tmp 16),(.tmp 17)]),none⟩,
 ⟨(some 19),(.mv (.tmp 18)),none⟩,
 ⟨(some 20),(.mv (.tmp 0)),(some (19,true))⟩,
 ⟨(some 21),(.mv (.tmp 4)),(some (19,true))⟩,
 ⟨(some 22),(.mv (.tmp 5)),(some (19,true))⟩,
 ⟨(some 23),(.calld (.tmp 20) [(.tmp 21),(.tmp 22)]),(some (19,true))⟩,
 ⟨(some 24),(.pure (oB (.unOp .not 4 (.tmp 23)) 4)),(some (19,true))⟩,
 ⟨(some 25),(.pick (.tmp 19) (.tmp 24) (.const (.bool false))),none⟩]
def rY:List bj:=[
 ⟨(some 26),(.bin .add 3 (.tmp 10) (.const (.int .i64 1))),none⟩,
 ⟨(some 10),(.mv (.tmp 26)),none⟩]
def aCN:List (Nat × bX):=[(0,⟨[0,1,2,9,10],false,[],[]⟩),(1,⟨[0,1,2,9,10,11],false,[],[]⟩),(2,⟨[0,1,2,4,9,10],false,[],[]⟩),(3,⟨[0,1,2,4,5,9,10],false,[],[]⟩),(4,⟨[0,1,2,9,10,25],false,[],[]⟩),(5,⟨[0,1,2,9,10],false,[],[]⟩)]
def aHc:List (Nat × bX):=[(1,⟨[0,1,2,9,10],true,[⟨false,10,0,20010,0⟩],[]⟩)]
def ayb:aq:=(.seq (.region aj1 [] (some ⟨[0,1,2,9,10],false,[],[]⟩)) (.block 0 (.loop (some ⟨[0,1,2,9,10],true,[⟨false,10,0,20010,0⟩],[]⟩) (.seq (.region nN [] (some ⟨[0,1,2,9,10,11],false,[],[]⟩)) (.seq (.cond (.tmp 11) .skip (.exit 0)) (.seq (.block 1 (.seq (.region se [] (some ⟨[0,1,2,4,9,10],false,[],[]⟩)) (.seq (.region rV [] (some ⟨[0,1,2,4,5,9,10],false,[],[]⟩)) (.seq (.region r4 [] (some ⟨[0,1,2,9,10,25],false,[],[]⟩)) (.cond (.tmp 25) .ret .skip))))) (.region rY [] (some ⟨[0,1,2,9,10],false,[],[]⟩))))))))
def aAf:List dQ:=[]
def aLt:FnT:=⟨27,aCN,aHc,ayb,aAf⟩
theorem aC8:tE Tryz.prog 89 27 aCN aHc ayb aAf:=⟨Tryz.f89,Tryz.func89,rfl,by kernel_rfl,by kernel_rfl,by kernel_rfl⟩
noncomputable def tbl:List (Nat × FnT):=[(6,ft6),(18,aG4),(19,aEA),(20,aAv),(21,aFT),(22,aE8),(23,aGb),(24,aD6),(25,aBk),(26,aHw),(27,aIl),(29,aH3),(38,aAm),(46,aCc),(47,aE4),(48,aFj),(49,aGB),(50,aG8),(51,aD1),(52,aHT),(53,aHI),(54,aF3),(55,aCz),(56,aCT),(57,aEb),(58,aFB),(59,aDZ),(60,aHe),(61,az4),(62,aCx),(63,aIr),(64,aER),(65,aBP),(66,aGw),(67,aHh),(76,aIo),(83,aAG),(84,aHC),(85,aHB),(86,aC9),(87,aDY),(88,aDC),(90,aEJ),(108,av4),(109,avV),(110,avy),(111,avH),(112,av7),(113,avq),(138,au9),(141,avk),(142,avx),(143,ava),(144,avb),(145,avr),(146,avw),(147,avm),(169,avW),(89,aLt)]
theorem aGr:HO Tryz.prog tbl:=⟨is6,aJr,aJh,aIY,aJW,aJo,aKS,aKZ,aLr,aKN,aKG,aJU,aII,aI4,aI1,aIW,aJv,aKb,aKo,aKQ,aLn,aLc,aJa,aKM,aIU,aJF,aJL,aKA,aKR,aI0,aK2,aJu,aK0,aJ3,aIM,aJp,aKd,aIJ,aJH,aKx,aJk,aIX,aJi,aCZ,aEr,aBC,aCI,aEC,aCh,aCP,aAJ,aF4,aEY,aAy,aIn,aEO,aFU,aIf,aC8,trivial⟩
end Go.AM
