/- The code of the functions that the first examples of chapter 4 run. -/
import Derived.Test.YtmcplmhohldpjaaGreatAMc
import Derived.Test.YtmcplmhohldpjaaGreatProg
namespace Go.AM
open Go.Proofs
set_option maxRecDepth 100000
set_option linter.unusedVariables false
noncomputable def getF (P:Program)(fn:Func)(tr tl:List (Nat × Tidy)):FnT:=⟨fn.ntmps,tr,tl,(fn.body.bind (mk P fn.ntmps tr tl true)).getD .skip,(fnRes P fn.results.toList).getD []⟩
def FnT.Is (t:FnT)(P:Program)(f:Nat):Prop:=FnIs P f t.nt t.tr t.tl t.ac t.rs
def okF (P : Program) (fn : Func) (tr tl : List (Nat × Tidy)) : Bool := (fn.body.bind (mk P fn.ntmps tr tl true)).isSome && ((fnRes P fn.results.toList).isSome && !(fn.name == "runtime.NumGoroutine"))
theorem getF_is {P:Program}{f:Nat}{fn:Func}{tr tl:List (Nat × Tidy)}(h:P.funcs[f]?=some fn)(hk:okF P fn tr tl=true):(getF P fn tr tl).Is P f:=by
 unfold okF at hk
 simp only [Bool.and_eq_true] at hk
 obtain⟨h1,h2,h3⟩:=hk
 obtain⟨x,hx⟩:=Option.isSome_iff_exists.1 h1
 obtain⟨y,hy⟩:=Option.isSome_iff_exists.1 h2
 refine⟨fn,h,rfl,?_,?_,by simpa using h3⟩
 ·show fn.body.bind (mk P fn.ntmps tr tl true)=some ((fn.body.bind (mk P fn.ntmps tr tl true)).getD .skip)
  rw [hx];rfl
 ·show fnRes P fn.results.toList=some ((fnRes P fn.results.toList).getD [])
  rw [hy];rfl
noncomputable def ft6:FnT:=getF Tryz.prog Tryz.f6 [tF 0 [],tF 1 [1,4],tF 2 [1,4,5,6],tF 3 [0]] []
theorem is6:ft6.Is Tryz.prog 6:=getF_is Tryz.func6 (by kernel_rfl)
noncomputable def ft8:FnT:=getF Tryz.prog Tryz.f8 [tF 0 [1,4],tF 1 [1,4,7],tF 2 [1,4,7,17],tF 3 [2,3,4,5],tF 4 [4,8,9,10],tF 5 [2,3,4,5]] []
theorem is8:ft8.Is Tryz.prog 8:=getF_is Tryz.func8 (by kernel_rfl)
noncomputable def ft26:FnT:=getF Tryz.prog Tryz.f26 [tF 0 [0],tF 1 [0]] []
theorem is26:ft26.Is Tryz.prog 26:=getF_is Tryz.func26 (by kernel_rfl)
noncomputable def ft27:FnT:=getF Tryz.prog Tryz.f27 [tF 0 [0,3,4,5],tF 1 [0,3,4,5,15],tF 2 [4,5],tF 3 [0,3,4,5,21,22,23],tF 4 [0,3,4,5,21,22,23,24],tF 5 [0,3,4,5,7,21,22,23],tF 6 [0,3,4,5,8,21,22,23],tF 7 [0,3,4,5,8,21,22,23,30],tF 8 [4,5],tF 9 [0,3,4,5,21,22,23],tF 10 [0,4,5,9],tF 11 [4,5,9,37],tF 12 [4,5,9,11],tF 13 [4,5,9,12],tF 14 [4,5,9],tF 15 [4,5,9,49],tF 16 [4,5],tF 17 [4,5]] [(4,⟨[0,3,4,5,21,22,23],true,[⟨false,21,0,20021,0⟩,⟨false,23,0,20023,0⟩],[]⟩),(13,⟨[4,5,9],true,[],[]⟩)]
theorem is27:ft27.Is Tryz.prog 27:=getF_is Tryz.func27 (by kernel_rfl)
noncomputable def ft28:FnT:=getF Tryz.prog Tryz.f28 [tF 0 [0,2],tF 1 [2]] []
theorem is28:ft28.Is Tryz.prog 28:=getF_is Tryz.func28 (by kernel_rfl)
noncomputable def ft94:FnT:=getF Tryz.prog Tryz.f94 [tF 0 [0,1,2],tF 1 [6]] []
theorem is94:ft94.Is Tryz.prog 94:=getF_is Tryz.func94 (by kernel_rfl)
noncomputable def ft72:FnT:=getF Tryz.prog Tryz.f72 [tF 0 [1,2],tF 1 [2]] []
theorem is72:ft72.Is Tryz.prog 72:=getF_is Tryz.func72 (by kernel_rfl)
noncomputable def ft160:FnT:=getF Tryz.prog Tryz.f160 [tF 0 [2,3,4],tF 1 [2,4,6,7],tF 2 [2,4,6,7,19],tF 3 [4,5],tF 4 [4,5]] []
theorem is160:ft160.Is Tryz.prog 160:=getF_is Tryz.func160 (by kernel_rfl)
noncomputable def ft29:FnT:=getF Tryz.prog Tryz.f29 [tF 0 [1],tF 1 [1,4,5],tF 2 [1,4,5,15],tF 3 [2,3],tF 4 [7],tF 5 [2,3]] []
theorem is29:ft29.Is Tryz.prog 29:=getF_is Tryz.func29 (by kernel_rfl)
noncomputable def ft30:FnT:=getF Tryz.prog Tryz.f30 [tF 0 [1,4],tF 1 [1,4,5],tF 2 [1,4,5,6],tF 3 [1,4,5,6,11,12,13],tF 4 [1,4,5,6,11,12,13,14],tF 5 [1,4,5,6,7,8,11,12,13],tF 6 [1,4,5,6,7,8,9,11,12,13],tF 7 [1,4,5,6,7,9,11,12,13],tF 8 [1,4,5,6,7,9,11,12,13,31],tF 9 [2,3,4],tF 10 [1,4,5,6,9,11,12,13,51],tF 11 [1,4,5,6,9,11,12,13],tF 12 [1,4,5,6,11,12,13],tF 13 [1,4,5,6,11,12,13],tF 14 [4,5,6,61],tF 15 [4,5,6],tF 16 [2,3,4]] [(4,⟨[1,4,5,6,11,12,13],true,[⟨false,5,0,20005,0⟩,⟨false,6,0,20006,0⟩,⟨false,11,0,20011,0⟩,⟨false,13,0,20013,0⟩],[]⟩)]
theorem is30:ft30.Is Tryz.prog 30:=getF_is Tryz.func30 (by kernel_rfl)
noncomputable def ft60:FnT:=getF Tryz.prog Tryz.f60 [tF 0 [0],tF 1 [0]] []
theorem is60:ft60.Is Tryz.prog 60:=getF_is Tryz.func60 (by kernel_rfl)
noncomputable def ft62:FnT:=getF Tryz.prog Tryz.f62 [tF 0 [1],tF 1 [1,3],tF 2 [1,3,7],tF 3 [2],tF 4 [11],tF 5 [2],tF 6 [2]] []
theorem is62:ft62.Is Tryz.prog 62:=getF_is Tryz.func62 (by kernel_rfl)
noncomputable def ft63:FnT:=getF Tryz.prog Tryz.f63 [tF 0 [1,2],tF 1 [2]] []
theorem is63:ft63.Is Tryz.prog 63:=getF_is Tryz.func63 (by kernel_rfl)
noncomputable def ft64:FnT:=getF Tryz.prog Tryz.f64 [tF 0 [1],tF 1 [2]] []
theorem is64:ft64.Is Tryz.prog 64:=getF_is Tryz.func64 (by kernel_rfl)
noncomputable def ft65:FnT:=getF Tryz.prog Tryz.f65 [tF 0 [2,3,4],tF 1 [4]] []
theorem is65:ft65.Is Tryz.prog 65:=getF_is Tryz.func65 (by kernel_rfl)
noncomputable def ft66:FnT:=getF Tryz.prog Tryz.f66 [tF 0 [2,3,4],tF 1 [4]] []
theorem is66:ft66.Is Tryz.prog 66:=getF_is Tryz.func66 (by kernel_rfl)
noncomputable def ft67:FnT:=getF Tryz.prog Tryz.f67 [tF 0 [1,2],tF 1 [4]] []
theorem is67:ft67.Is Tryz.prog 67:=getF_is Tryz.func67 (by kernel_rfl)
noncomputable def ft68:FnT:=getF Tryz.prog Tryz.f68 [tF 0 [1,2],tF 1 [2]] []
theorem is68:ft68.Is Tryz.prog 68:=getF_is Tryz.func68 (by kernel_rfl)
noncomputable def ft121:FnT:=getF Tryz.prog Tryz.f121 [tF 0 [1],tF 1 [1,3,4],tF 2 [4,11],tF 3 [2],tF 4 [34],tF 5 [2],tF 6 [2]] []
theorem is121:ft121.Is Tryz.prog 121:=getF_is Tryz.func121 (by kernel_rfl)
noncomputable def ft122:FnT:=getF Tryz.prog Tryz.f122 [tF 0 [1,2,4],tF 1 [1,2,4,6],tF 2 [2,4,6,13],tF 3 [2,4,6,7],tF 4 [2,4,6],tF 5 [4,5],tF 6 [2,4,6,8],tF 7 [2,4,6],tF 8 [4,5]] []
theorem is122:ft122.Is Tryz.prog 122:=getF_is Tryz.func122 (by kernel_rfl)
noncomputable def ft71:FnT:=getF Tryz.prog Tryz.f71 [tF 0 [3,4,5,6],tF 1 [6]] []
theorem is71:ft71.Is Tryz.prog 71:=getF_is Tryz.func71 (by kernel_rfl)
noncomputable def ft70:FnT:=getF Tryz.prog Tryz.f70 [tF 0 [1],tF 1 [1,11],tF 2 [2,3],tF 3 [1,4],tF 4 [1,4,16],tF 5 [2,3],tF 6 [1,21],tF 7 [2,3],tF 8 [1,5],tF 9 [1,5,26],tF 10 [2,3],tF 11 [1,31],tF 12 [2,3],tF 13 [1,33,34,35],tF 14 [1,33,34,35,36],tF 15 [1,6,7,33,34,35],tF 16 [1,6,7,33,34,35,40],tF 17 [2,3],tF 18 [1,6,33,34,35,75],tF 19 [2,3],tF 20 [1,33,34,35],tF 21 [106],tF 22 [2,3],tF 23 [2,3]] [(14,⟨[1,33,34,35],true,[⟨false,33,0,20033,0⟩,⟨false,35,0,20035,0⟩],[]⟩)]
theorem is70:ft70.Is Tryz.prog 70:=getF_is Tryz.func70 (by kernel_rfl)
noncomputable def ft118:FnT:=getF Tryz.prog Tryz.f118 [tF 0 [2,3],tF 1 [2,5,6],tF 2 [6,7,8,9,10],tF 3 [7,8,9,10,31],tF 4 [4],tF 5 [7,8,9,10,34],tF 6 [4],tF 7 [43],tF 8 [4],tF 9 [4]] []
theorem is118:ft118.Is Tryz.prog 118:=getF_is Tryz.func118 (by kernel_rfl)
noncomputable def ft69:FnT:=getF Tryz.prog Tryz.f69 [tF 0 [0],tF 1 [0,7],tF 2 [2,3],tF 3 [0,11],tF 4 [2,3],tF 5 [15,16,17],tF 6 [15,16,17,18],tF 7 [4,5,15,16,17],tF 8 [4,6,15,16,17],tF 9 [4,6,15,16,17,25],tF 10 [2,3],tF 11 [15,16,17],tF 12 [2,3]] [(6,⟨[15,16,17],true,[⟨false,15,0,20015,0⟩,⟨false,17,0,20017,0⟩],[]⟩)]
theorem is69:ft69.Is Tryz.prog 69:=getF_is Tryz.func69 (by kernel_rfl)
noncomputable def ft73:FnT:=getF Tryz.prog Tryz.f73 [tF 0 [0,2,4],tF 1 [0,2,4,17],tF 2 [0],tF 3 [0,6],tF 4 [0,2,4,7],tF 5 [0,2,4,7,44],tF 6 [0],tF 7 [0,6],tF 8 [0,2,4,8],tF 9 [0,2,4,8,55],tF 10 [0],tF 11 [0,6],tF 12 [0,2,4,8],tF 13 [0,2,9],tF 14 [0,6]] []
theorem is73:ft73.Is Tryz.prog 73:=getF_is Tryz.func73 (by kernel_rfl)
noncomputable def ft111:FnT:=getF Tryz.prog Tryz.f111 [tF 0 [1],tF 1 [1,3],tF 2 [2],tF 3 [7],tF 4 [2],tF 5 [2]] []
theorem is111:ft111.Is Tryz.prog 111:=getF_is Tryz.func111 (by kernel_rfl)
noncomputable def ft113:FnT:=getF Tryz.prog Tryz.f113 [tF 0 [0,1,4],tF 1 [0,1,4,5],tF 2 [0,1,4,5,12],tF 3 [0,1,4,5],tF 4 [4]] []
theorem is113:ft113.Is Tryz.prog 113:=getF_is Tryz.func113 (by kernel_rfl)
noncomputable def ft161:FnT:=getF Tryz.prog Tryz.f161 [tF 0 [1],tF 1 [2]] []
theorem is161:ft161.Is Tryz.prog 161:=getF_is Tryz.func161 (by kernel_rfl)
noncomputable def ft162:FnT:=getF Tryz.prog Tryz.f162 [tF 0 [1,2],tF 1 [1,2,3],tF 2 [2]] []
theorem is162:ft162.Is Tryz.prog 162:=getF_is Tryz.func162 (by kernel_rfl)
noncomputable def ft107:FnT:=getF Tryz.prog Tryz.f107 [tF 0 [0],tF 1 [2]] []
theorem is107:ft107.Is Tryz.prog 107:=getF_is Tryz.func107 (by kernel_rfl)
noncomputable def ft115:FnT:=getF Tryz.prog Tryz.f115 [tF 0 [1,2],tF 1 [2,5],tF 2 [4],tF 3 [18],tF 4 [4],tF 5 [4]] []
theorem is115:ft115.Is Tryz.prog 115:=getF_is Tryz.func115 (by kernel_rfl)
noncomputable def ft116:FnT:=getF Tryz.prog Tryz.f116 [tF 0 [0],tF 1 [2]] []
theorem is116:ft116.Is Tryz.prog 116:=getF_is Tryz.func116 (by kernel_rfl)
noncomputable def ft110:FnT:=getF Tryz.prog Tryz.f110 [tF 0 [0,1,2],tF 1 [6]] []
theorem is110:ft110.Is Tryz.prog 110:=getF_is Tryz.func110 (by kernel_rfl)
noncomputable def ft117:FnT:=getF Tryz.prog Tryz.f117 [tF 0 [0],tF 1 [2]] []
theorem is117:ft117.Is Tryz.prog 117:=getF_is Tryz.func117 (by kernel_rfl)
noncomputable def ft109:FnT:=getF Tryz.prog Tryz.f109 [tF 0 [0],tF 1 [2]] []
theorem is109:ft109.Is Tryz.prog 109:=getF_is Tryz.func109 (by kernel_rfl)
noncomputable def ft108:FnT:=getF Tryz.prog Tryz.f108 [tF 0 [0],tF 1 [2]] []
theorem is108:ft108.Is Tryz.prog 108:=getF_is Tryz.func108 (by kernel_rfl)
noncomputable def ft114:FnT:=getF Tryz.prog Tryz.f114 [tF 0 [1],tF 1 [1,3],tF 2 [2],tF 3 [1,7],tF 4 [2],tF 5 [1,18],tF 6 [2],tF 7 [1,26],tF 8 [2],tF 9 [1,31],tF 10 [2],tF 11 [1,39],tF 12 [2],tF 13 [50],tF 14 [2],tF 15 [2]] []
theorem is114:ft114.Is Tryz.prog 114:=getF_is Tryz.func114 (by kernel_rfl)
noncomputable def ft119:FnT:=getF Tryz.prog Tryz.f119 [tF 0 [1],tF 1 [2]] []
theorem is119:ft119.Is Tryz.prog 119:=getF_is Tryz.func119 (by kernel_rfl)
noncomputable def ft120:FnT:=getF Tryz.prog Tryz.f120 [tF 0 [0,1,4],tF 1 [4]] []
theorem is120:ft120.Is Tryz.prog 120:=getF_is Tryz.func120 (by kernel_rfl)
noncomputable def ft156:FnT:=getF Tryz.prog Tryz.f156 [tF 0 [1],tF 1 [1,3],tF 2 [2]] []
theorem is156:ft156.Is Tryz.prog 156:=getF_is Tryz.func156 (by kernel_rfl)
noncomputable def ft157:FnT:=getF Tryz.prog Tryz.f157 [tF 0 [0,1],tF 1 [0,1,6],tF 2 [0,1],tF 3 [4]] [(1,⟨[0,1],true,[⟨false,0,0,20000,0⟩,⟨false,1,0,20001,0⟩],[]⟩)]
theorem is157:ft157.Is Tryz.prog 157:=getF_is Tryz.func157 (by kernel_rfl)
noncomputable def ft158:FnT:=getF Tryz.prog Tryz.f158 [tF 0 [1],tF 1 [2]] []
theorem is158:ft158.Is Tryz.prog 158:=getF_is Tryz.func158 (by kernel_rfl)
noncomputable def ft159:FnT:=getF Tryz.prog Tryz.f159 [tF 0 [1,2,3],tF 1 [6]] []
theorem is159:ft159.Is Tryz.prog 159:=getF_is Tryz.func159 (by kernel_rfl)
noncomputable def tblM:List (Nat × FnT):=[(6,ft6),(8,ft8),(26,ft26),(27,ft27),(28,ft28),(94,ft94),(72,ft72),(160,ft160),(29,ft29),(30,ft30),(60,ft60),(62,ft62),(63,ft63),(64,ft64),(65,ft65),(66,ft66),(67,ft67),(68,ft68),(121,ft121),(122,ft122),(71,ft71),(70,ft70),(118,ft118),(69,ft69),(73,ft73),(111,ft111),(113,ft113),(161,ft161),(162,ft162),(107,ft107),(115,ft115),(116,ft116),(110,ft110),(117,ft117),(109,ft109),(108,ft108),(114,ft114),(119,ft119),(120,ft120),(156,ft156),(157,ft157),(158,ft158),(159,ft159)]
theorem tblMOk:TblOk Tryz.prog tblM:=⟨is6,is8,is26,is27,is28,is94,is72,is160,is29,is30,is60,is62,is63,is64,is65,is66,is67,is68,is121,is122,is71,is70,is118,is69,is73,is111,is113,is161,is162,is107,is115,is116,is110,is117,is109,is108,is114,is119,is120,is156,is157,is158,is159,trivial⟩
end Go.AM
