/- The code of the functions that the first examples of chapter 6 run. -/
import Derived.Test.YtnhkllkecbmchaaGreatDoorAMc
import Derived.Test.YtnhkllkecbmchaaGreatDoorProg
namespace Go.AM
open Go.Proofs
set_option maxRecDepth 100000
set_option linter.unusedVariables false
noncomputable def getF (P:Program)(fn:Func)(tr tl:List (Nat × Tidy)):FnT:=⟨fn.ntmps,tr,tl,(fn.body.bind (mk P fn.ntmps tr tl true)).getD .skip,(fnRes P fn.results.toList).getD []⟩
def FnT.Is (t:FnT)(P:Program)(f:Nat):Prop:=FnIs P f t.nt t.tr t.tl t.ac t.rs
def okF (P : Program) (fn : Func) (tr tl : List (Nat × Tidy)) : Bool := (fn.body.bind (mk P fn.ntmps tr tl true)).isSome && ((fnRes P fn.results.toList).isSome && !(fn.name == "runtime.NumGoroutine"))
theorem getF_is {P:Program}{f:Nat}{fn:Func}{tr tl:List (Nat × Tidy)}(h:P.funcs[f]?=some fn)(hk:okF P fn tr tl=true):(getF P fn tr tl).Is P f:=by
 unfold okF at hk
 simp only [Bool.and_eq_true] at hk
 obtain⟨h1,h2,h3⟩:=hk
 obtain⟨x,hx⟩:=Option.isSome_iff_exists.1 h1
 obtain⟨y,hy⟩:=Option.isSome_iff_exists.1 h2
 refine⟨fn,h,rfl,?_,?_,by simpa using h3⟩
 ·show fn.body.bind (mk P fn.ntmps tr tl true)=some ((fn.body.bind (mk P fn.ntmps tr tl true)).getD .skip)
  rw [hx];rfl
 ·show fnRes P fn.results.toList=some ((fnRes P fn.results.toList).getD [])
  rw [hy];rfl
noncomputable def ft15:FnT:=getF Tryz.prog Tryz.f15 [tF 0 [],tF 1 [1,2],tF 2 [1,2,3,4],tF 3 [1,2,3,4,5,6],(4,⟨[1,2,3,4,5,6,7,8],false,[],[3]⟩),tF 5 [0]] []
theorem is15:ft15.Is Tryz.prog 15:=getF_is Tryz.func15 (by kernel_rfl)
noncomputable def ft73:FnT:=getF Tryz.prog Tryz.f73 [tF 0 [1,2],tF 1 [2,4,6],tF 2 [2,4,6,19],tF 3 [2,3],tF 4 [2,4,7],tF 5 [2,7,23,24,25],tF 6 [2,7,23,24,25,26],tF 7 [2,7,9,23,24,25],tF 8 [2,7,23,24,25],tF 9 [2,7,23,24,25],tF 10 [2,7,10],tF 11 [2,7,10,35],tF 12 [2,7,10,35,36],tF 13 [2,7,10,11,35],tF 14 [2,7,10,35],tF 15 [2,7,10,35],tF 16 [2,3]] [(6,⟨[2,7,23,24,25],true,[⟨false,7,0,20007,0⟩,⟨false,23,0,20023,0⟩,⟨false,25,0,20025,0⟩,⟨true,4,0,30400,0⟩],[]⟩),(12,⟨[2,7,10,35],true,[⟨false,7,0,20007,0⟩,⟨false,35,0,20035,0⟩,⟨true,4,0,30400,0⟩],[]⟩)]
theorem is73:ft73.Is Tryz.prog 73:=getF_is Tryz.func73 (by kernel_rfl)
noncomputable def ft71:FnT:=getF Tryz.prog Tryz.f71 [tF 0 [1,2],tF 1 [1,2],tF 2 [2]] []
theorem is71:ft71.Is Tryz.prog 71:=getF_is Tryz.func71 (by kernel_rfl)
noncomputable def ft76:FnT:=getF Tryz.prog Tryz.f76 [tF 0 [0,1],tF 1 [0,1,10],tF 2 [4],tF 3 [0,1,5],tF 4 [0,1,5,14],tF 6 [0,1,5,26],tF 7 [4],tF 5 [0,1,5],tF 8 [4]] [(4,⟨[0,1,5],true,[⟨false,5,0,20005,0⟩],[]⟩)]
theorem is76:ft76.Is Tryz.prog 76:=getF_is Tryz.func76 (by kernel_rfl)
noncomputable def ft70:FnT:=getF Tryz.prog Tryz.f70 [tF 0 [1,2],tF 1 [2,4,6],tF 2 [2,4,6,18],tF 3 [2,3],tF 4 [2,4,24],tF 5 [2,3],tF 6 [2,4,7],tF 7 [2,4,7,27,28,29],tF 8 [2,4,7,27,28,29,30],tF 9 [2,4,7,8,9,27,28,29],tF 10 [2,4,7,27,28,29],tF 11 [2,4,7,27,28,29],tF 12 [2,4,7,10],tF 13 [2,3]] [(8,⟨[2,4,7,27,28,29],true,[⟨false,27,0,20027,0⟩,⟨false,29,0,20029,0⟩,⟨true,4,0,30400,0⟩],[]⟩)]
theorem is70:ft70.Is Tryz.prog 70:=getF_is Tryz.func70 (by kernel_rfl)
noncomputable def ft127:FnT:=getF Tryz.prog Tryz.f127 [tF 0 [1,2],tF 1 [1,2,4],tF 2 [1,2,4,14],tF 3 [2,3],tF 4 [1,2,20],tF 5 [2,3],tF 6 [1,2,5],tF 7 [1,2,5,26,27],tF 8 [1,2,5,26,27,28],tF 9 [1,2,5,6,7,26,27],tF 10 [1,2,5,6,7,8,9,26,27],tF 11 [1,2,5,6,7,8,9,26,27,39],tF 12 [1,2,5,6,7,8,9,26,27],tF 13 [1,2,5,6,7,8,9,26,27,45],tF 14 [1,2,5,6,7,8,9,26,27],tF 15 [1,2,5,6,7,8,9,26,27],tF 16 [1,2,5,10,26,27],tF 17 [1,2,5,10,26,27,69],tF 18 [2,3],tF 19 [1,2,5,26,27],tF 20 [2,3]] [(8,⟨[1,2,5,26,27],true,[⟨false,27,0,20027,0⟩],[]⟩)]
theorem is127:ft127.Is Tryz.prog 127:=getF_is Tryz.func127 (by kernel_rfl)
noncomputable def ft48:FnT:=getF Tryz.prog Tryz.f48 [tF 0 [1,2],tF 1 [1,2,4],tF 2 [1,2,4,43,44],tF 3 [1,2,4,43,44,45],tF 4 [1,2,4,6,43,44],tF 5 [1,2,4,6,43,44,48],tF 6 [2,3],tF 7 [1,2,4,43,44],tF 8 [1,2,4,54],tF 9 [2,3],tF 10 [1,2,4,7,8],tF 11 [1,2,4,7,8,63],tF 12 [2,3],tF 13 [1,2,4,7,8,9],tF 14 [1,2,4,7,8,9,73],tF 15 [2,3],tF 16 [1,2,4,7,9,10],tF 17 [2,4,7,9,10,11],tF 18 [2,4,7,9,11,12,13],tF 19 [2,4,7,9,11,12,97],tF 20 [2,3],tF 21 [2,4,7,9,11,12],tF 22 [2,4,11,12,105,106],tF 23 [2,4,11,12,105,106,107],tF 24 [2,4,11,12,14,15,105,106],tF 25 [2,4,11,12,14,15,16,17,105,106],tF 26 [2,4,11,12,14,16,17,105,106,114,115],tF 27 [2,4,11,12,14,16,17,105,106,114,115,116],tF 28 [2,4,11,12,14,16,17,19,105,106,114,115],tF 29 [2,4,11,12,14,16,17,19,105,106,114,115,122,123],tF 30 [2,4,11,12,14,16,17,19,105,106,114,115,122,123,124],tF 31 [2,4,11,12,14,16,17,19,21,105,106,114,115,122,123],tF 32 [2,4,11,12,14,16,17,19,22,23,105,106,114,115,122,123],tF 33 [2,4,11,12,14,16,17,19,105,106,114,115,122,123],tF 34 [2,4,11,12,14,16,17,19,105,106,114,115,122,123],tF 35 [2,4,11,12,14,16,17,105,106,114,115],tF 36 [2,4,11,12,14,24,25,105,106],tF 37 [2,4,11,12,14,24,25,105,106,163],tF 38 [2,3],tF 39 [2,4,11,12,105,106],tF 40 [2,4,11,12,105,106],tF 41 [2,3]] [(3,⟨[1,2,4,43,44],true,[⟨false,44,0,20044,0⟩],[]⟩),(23,⟨[2,4,11,12,105,106],true,[⟨false,106,0,20106,0⟩],[]⟩),(27,⟨[2,4,11,12,14,16,17,105,106,114,115],true,[⟨false,14,0,20014,0⟩,⟨false,16,0,20016,0⟩,⟨false,17,0,20017,0⟩,⟨false,106,0,20106,0⟩,⟨false,115,0,20115,0⟩],[]⟩),(30,⟨[2,4,11,12,14,16,17,19,105,106,114,115,122,123],true,[⟨false,14,0,20014,0⟩,⟨false,16,0,20016,0⟩,⟨false,17,0,20017,0⟩,⟨false,19,0,20019,0⟩,⟨false,106,0,20106,0⟩,⟨false,115,0,20115,0⟩,⟨false,123,0,20123,0⟩],[]⟩)]
theorem is48:ft48.Is Tryz.prog 48:=getF_is Tryz.func48 (by kernel_rfl)
noncomputable def ft82:FnT:=getF Tryz.prog Tryz.f82 [tF 0 [1],tF 1 [1,3],tF 2 [1,3,12],tF 3 [2],tF 4 [2]] []
theorem is82:ft82.Is Tryz.prog 82:=getF_is Tryz.func82 (by kernel_rfl)
noncomputable def ft171:FnT:=getF Tryz.prog Tryz.f171 [tF 0 [0,1],tF 1 [4]] []
theorem is171:ft171.Is Tryz.prog 171:=getF_is Tryz.func171 (by kernel_rfl)
noncomputable def ft125:FnT:=getF Tryz.prog Tryz.f125 [tF 0 [1],tF 1 [2]] []
theorem is125:ft125.Is Tryz.prog 125:=getF_is Tryz.func125 (by kernel_rfl)
noncomputable def ft72:FnT:=getF Tryz.prog Tryz.f72 [tF 0 [0],tF 1 [0]] []
theorem is72:ft72.Is Tryz.prog 72:=getF_is Tryz.func72 (by kernel_rfl)
noncomputable def ft74:FnT:=getF Tryz.prog Tryz.f74 [tF 0 [0],tF 1 [0]] []
theorem is74:ft74.Is Tryz.prog 74:=getF_is Tryz.func74 (by kernel_rfl)
noncomputable def ft165:FnT:=getF Tryz.prog Tryz.f165 [tF 0 [1,2],tF 1 [1,2,5],tF 2 [1,2,14],tF 3 [2,3,4],tF 4 [1,2,24],tF 5 [2,3,4],tF 6 [1,2,6],tF 7 [2,6,42,43,44],tF 8 [2,6,42,43,44,45],tF 9 [2,6,7,8,42,43,44],tF 10 [2,6,7,9,10,42,43,44],tF 11 [2,6,7,9,10,42,43,44,55],tF 12 [2,3,4],tF 13 [2,6,42,43,44],tF 14 [2,6,42,43,44],tF 15 [2,3,4]] [(8,⟨[2,6,42,43,44],true,[⟨false,42,0,20042,0⟩,⟨false,44,0,20044,0⟩,⟨true,2,0,30200,0⟩,⟨true,6,0,30600,0⟩],[]⟩)]
theorem is165:ft165.Is Tryz.prog 165:=getF_is Tryz.func165 (by kernel_rfl)
noncomputable def ft168:FnT:=getF Tryz.prog Tryz.f168 [tF 0 [0,1,4],tF 1 [0,1,4,5],tF 2 [1,4,5,8,9,10],tF 3 [1,4,5,8,9,10,11],tF 4 [1,4,5,6,7,8,9,10],tF 5 [1,4,5,7,8,9,10],tF 6 [1,4,5,8,9,10],tF 7 [1,4,5,8,9,10],tF 8 [4]] [(3,⟨[1,4,5,8,9,10],true,[⟨false,8,0,20008,0⟩,⟨false,10,0,20010,0⟩],[]⟩)]
theorem is168:ft168.Is Tryz.prog 168:=getF_is Tryz.func168 (by kernel_rfl)
noncomputable def ft169:FnT:=getF Tryz.prog Tryz.f169 [tF 0 [1],tF 1 [2]] []
theorem is169:ft169.Is Tryz.prog 169:=getF_is Tryz.func169 (by kernel_rfl)
noncomputable def ft166:FnT:=getF Tryz.prog Tryz.f166 [tF 0 [1],tF 1 [1,3],tF 2 [1,3,7,8,9],tF 3 [1,3,7,8,9,10],tF 4 [1,3,4,5,7,8,9],tF 5 [1,3,4,7,8,9,17],tF 6 [1,3,7,8,9],tF 7 [1,3,7,8,9],tF 8 [2]] [(3,⟨[1,3,7,8,9],true,[⟨false,3,0,20003,0⟩,⟨false,7,0,20007,0⟩,⟨false,9,0,20009,0⟩],[]⟩)]
theorem is166:ft166.Is Tryz.prog 166:=getF_is Tryz.func166 (by kernel_rfl)
noncomputable def ft167:FnT:=getF Tryz.prog Tryz.f167 [tF 0 [0,1,4],tF 1 [4]] []
theorem is167:ft167.Is Tryz.prog 167:=getF_is Tryz.func167 (by kernel_rfl)
noncomputable def ft134:FnT:=getF Tryz.prog Tryz.f134 [tF 0 [1,2],tF 1 [1,2,11],tF 2 [2,3],tF 3 [2,3]] []
theorem is134:ft134.Is Tryz.prog 134:=getF_is Tryz.func134 (by kernel_rfl)
noncomputable def ft131:FnT:=getF Tryz.prog Tryz.f131 [tF 0 [0,1],tF 1 [0,1,5],tF 2 [5,19],tF 3 [5],tF 4 [4]] []
theorem is131:ft131.Is Tryz.prog 131:=getF_is Tryz.func131 (by kernel_rfl)
noncomputable def ft132:FnT:=getF Tryz.prog Tryz.f132 [tF 0 [0,1],tF 1 [4]] []
theorem is132:ft132.Is Tryz.prog 132:=getF_is Tryz.func132 (by kernel_rfl)
noncomputable def ft124:FnT:=getF Tryz.prog Tryz.f124 [tF 0 [0,1,5],tF 1 [1,5,7],tF 2 [6],tF 3 [11],tF 4 [6],tF 5 [6]] []
theorem is124:ft124.Is Tryz.prog 124:=getF_is Tryz.func124 (by kernel_rfl)
noncomputable def ft126:FnT:=getF Tryz.prog Tryz.f126 [tF 0 [1],tF 1 [1,3],tF 2 [2],tF 3 [12],tF 4 [2],tF 5 [2]] []
theorem is126:ft126.Is Tryz.prog 126:=getF_is Tryz.func126 (by kernel_rfl)
noncomputable def ft128:FnT:=getF Tryz.prog Tryz.f128 [tF 0 [1,2,3],tF 1 [1,2,3,4],tF 2 [2,3,4,5],tF 3 [3]] []
theorem is128:ft128.Is Tryz.prog 128:=getF_is Tryz.func128 (by kernel_rfl)
noncomputable def ft129:FnT:=getF Tryz.prog Tryz.f129 [tF 0 [0,1],tF 1 [3]] []
theorem is129:ft129.Is Tryz.prog 129:=getF_is Tryz.func129 (by kernel_rfl)
noncomputable def ft130:FnT:=getF Tryz.prog Tryz.f130 [tF 0 [0,1],tF 1 [3]] []
theorem is130:ft130.Is Tryz.prog 130:=getF_is Tryz.func130 (by kernel_rfl)
noncomputable def ft133:FnT:=getF Tryz.prog Tryz.f133 [tF 0 [2,3,4],tF 1 [4,6],tF 2 [4,5]] []
theorem is133:ft133.Is Tryz.prog 133:=getF_is Tryz.func133 (by kernel_rfl)
noncomputable def ft135:FnT:=getF Tryz.prog Tryz.f135 [tF 0 [0],tF 1 [0,7],tF 2 [0],tF 3 [0,3],tF 4 [0,3,4],tF 5 [0,3,4,15],tF 7 [0,3,4],tF 6 [0,3,4],tF 8 [2]] [(5,⟨[0,3,4],true,[⟨false,3,0,20003,0⟩,⟨false,4,0,20004,0⟩],[]⟩)]
theorem is135:ft135.Is Tryz.prog 135:=getF_is Tryz.func135 (by kernel_rfl)
noncomputable def ft136:FnT:=getF Tryz.prog Tryz.f136 [tF 0 [0],tF 1 [0,7],tF 2 [0],tF 3 [0,3],tF 4 [0,3,4],tF 5 [0,3,4,15],tF 7 [0,3,4],tF 6 [0,3,4],tF 8 [2]] [(5,⟨[0,3,4],true,[⟨false,3,0,20003,0⟩,⟨false,4,0,20004,0⟩],[]⟩)]
theorem is136:ft136.Is Tryz.prog 136:=getF_is Tryz.func136 (by kernel_rfl)
noncomputable def ft174:FnT:=getF Tryz.prog Tryz.f174 [tF 0 [0,1],tF 1 [0,8,9,10],tF 2 [0,8,9,10,11],tF 3 [0,6,8,9,10],tF 4 [0,7,8,9,10],tF 5 [0,7,8,9,10,18],tF 6 [4],tF 7 [0,8,9,10],tF 8 [4]] [(2,⟨[0,8,9,10],true,[⟨false,8,0,20008,0⟩,⟨false,10,0,20010,0⟩],[]⟩)]
theorem is174:ft174.Is Tryz.prog 174:=getF_is Tryz.func174 (by kernel_rfl)
noncomputable def ft215:FnT:=getF Tryz.prog Tryz.f215 [tF 0 [0,1,2],tF 1 [6]] []
theorem is215:ft215.Is Tryz.prog 215:=getF_is Tryz.func215 (by kernel_rfl)
noncomputable def ft276:FnT:=getF Tryz.prog Tryz.f276 [tF 0 [0,1],tF 1 [4]] []
theorem is276:ft276.Is Tryz.prog 276:=getF_is Tryz.func276 (by kernel_rfl)
noncomputable def ft239:FnT:=getF Tryz.prog Tryz.f239 [tF 0 [0,1,2],tF 1 [0,1,2,8],tF 2 [6,7],tF 3 [0,1,2,18],tF 4 [6,7],tF 5 [0,1,2,25],tF 6 [6,7],tF 7 [0,31],tF 8 [6,7],tF 9 [6,7]] []
theorem is239:ft239.Is Tryz.prog 239:=getF_is Tryz.func239 (by kernel_rfl)
noncomputable def ft240:FnT:=getF Tryz.prog Tryz.f240 [tF 0 [1,2,4],tF 1 [2,4,8],tF 2 [2,4,8,9],tF 3 [4],tF 4 [2,4,8,17],tF 5 [4],tF 6 [2,4,26],tF 7 [4],tF 8 [4]] []
theorem is240:ft240.Is Tryz.prog 240:=getF_is Tryz.func240 (by kernel_rfl)
noncomputable def ft219:FnT:=getF Tryz.prog Tryz.f219 [tF 0 [0],tF 1 [0,7,8,9],tF 2 [0,7,8,9,10],tF 3 [0,3,4,7,8,9],tF 4 [0,3,4,5,7,8,9],tF 5 [0,7,8,9,45],tF 6 [2],tF 7 [0,7,8,9],tF 8 [2]] [(2,⟨[0,7,8,9],true,[⟨false,7,0,20007,0⟩,⟨false,9,0,20009,0⟩],[]⟩)]
theorem is219:ft219.Is Tryz.prog 219:=getF_is Tryz.func219 (by kernel_rfl)
noncomputable def ft220:FnT:=getF Tryz.prog Tryz.f220 [tF 0 [0,1],tF 1 [4]] []
theorem is220:ft220.Is Tryz.prog 220:=getF_is Tryz.func220 (by kernel_rfl)
noncomputable def ft245:FnT:=getF Tryz.prog Tryz.f245 [tF 0 [1,2],tF 1 [2,5],tF 2 [4],tF 3 [18],tF 4 [4],tF 5 [4]] []
theorem is245:ft245.Is Tryz.prog 245:=getF_is Tryz.func245 (by kernel_rfl)
noncomputable def tblM:List (Nat × FnT):=[(15,ft15),(73,ft73),(71,ft71),(76,ft76),(70,ft70),(127,ft127),(48,ft48),(82,ft82),(171,ft171),(125,ft125),(72,ft72),(74,ft74),(165,ft165),(168,ft168),(169,ft169),(166,ft166),(167,ft167),(134,ft134),(131,ft131),(132,ft132),(124,ft124),(126,ft126),(128,ft128),(129,ft129),(130,ft130),(133,ft133),(135,ft135),(136,ft136),(174,ft174),(215,ft215),(276,ft276),(239,ft239),(240,ft240),(219,ft219),(220,ft220),(245,ft245)]
theorem tblMOk:TblOk Tryz.prog tblM:=⟨is15,is73,is71,is76,is70,is127,is48,is82,is171,is125,is72,is74,is165,is168,is169,is166,is167,is134,is131,is132,is124,is126,is128,is129,is130,is133,is135,is136,is174,is215,is276,is239,is240,is219,is220,is245,trivial⟩
end Go.AM
