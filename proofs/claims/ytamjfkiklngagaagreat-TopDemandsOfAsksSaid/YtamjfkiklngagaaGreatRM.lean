/- The code of the functions that the first examples of chapter 4 run. -/
import Derived.Test.YtamjfkiklngagaaGreatAMc
import Derived.Test.YtamjfkiklngagaaGreatProg
namespace Go.AM
open Go.Proofs
set_option maxRecDepth 100000
set_option linter.unusedVariables false
noncomputable def getF (P:Program)(fn:Func)(tr tl:List (Nat × Tidy)):FnT:=⟨fn.ntmps,tr,tl,(fn.body.bind (mk P fn.ntmps tr tl true)).getD .skip,(fnRes P fn.results.toList).getD []⟩
def FnT.Is (t:FnT)(P:Program)(f:Nat):Prop:=FnIs P f t.nt t.tr t.tl t.ac t.rs
def okF (P : Program) (fn : Func) (tr tl : List (Nat × Tidy)) : Bool := (fn.body.bind (mk P fn.ntmps tr tl true)).isSome && ((fnRes P fn.results.toList).isSome && !(fn.name == "runtime.NumGoroutine"))
theorem getF_is {P:Program}{f:Nat}{fn:Func}{tr tl:List (Nat × Tidy)}(h:P.funcs[f]?=some fn)(hk:okF P fn tr tl=true):(getF P fn tr tl).Is P f:=by
 unfold okF at hk
 simp only [Bool.and_eq_true] at hk
 obtain⟨h1,h2,h3⟩:=hk
 obtain⟨x,hx⟩:=Option.isSome_iff_exists.1 h1
 obtain⟨y,hy⟩:=Option.isSome_iff_exists.1 h2
 refine⟨fn,h,rfl,?_,?_,by simpa using h3⟩
 ·show fn.body.bind (mk P fn.ntmps tr tl true)=some ((fn.body.bind (mk P fn.ntmps tr tl true)).getD .skip)
  rw [hx];rfl
 ·show fnRes P fn.results.toList=some ((fnRes P fn.results.toList).getD [])
  rw [hy];rfl
noncomputable def ft4:FnT:=getF Tryz.prog Tryz.f4 [tF 0 [],tF 1 [1,4],tF 2 [1,4,5,6],tF 3 [0]] []
theorem is4:ft4.Is Tryz.prog 4:=getF_is Tryz.func4 (by kernel_rfl)
noncomputable def ft15:FnT:=getF Tryz.prog Tryz.f15 [tF 0 [1,4],tF 1 [1,4,7],tF 2 [1,4,7,17],tF 3 [2,3,4,5],tF 4 [4,8,9,10],tF 5 [2,3,4,5]] []
theorem is15:ft15.Is Tryz.prog 15:=getF_is Tryz.func15 (by kernel_rfl)
noncomputable def ft16:FnT:=getF Tryz.prog Tryz.f16 [tF 0 [0],tF 1 [0]] []
theorem is16:ft16.Is Tryz.prog 16:=getF_is Tryz.func16 (by kernel_rfl)
noncomputable def ft17:FnT:=getF Tryz.prog Tryz.f17 [tF 0 [0,3,4,5],tF 1 [0,3,4,5,15],tF 2 [4,5],tF 3 [0,3,4,5,21,22,23],tF 4 [0,3,4,5,21,22,23,24],tF 5 [0,3,4,5,7,21,22,23],tF 6 [0,3,4,5,8,21,22,23],tF 7 [0,3,4,5,8,21,22,23,30],tF 8 [4,5],tF 9 [0,3,4,5,21,22,23],tF 10 [0,4,5,9],tF 11 [4,5,9,37],tF 12 [4,5,9,11],tF 13 [4,5,9,12],tF 14 [4,5,9],tF 15 [4,5,9,49],tF 16 [4,5],tF 17 [4,5]] [(4,⟨[0,3,4,5,21,22,23],true,[⟨false,21,0,20021,0⟩,⟨false,23,0,20023,0⟩],[]⟩),(13,⟨[4,5,9],true,[],[]⟩)]
theorem is17:ft17.Is Tryz.prog 17:=getF_is Tryz.func17 (by kernel_rfl)
noncomputable def ft18:FnT:=getF Tryz.prog Tryz.f18 [tF 0 [0,2],tF 1 [2]] []
theorem is18:ft18.Is Tryz.prog 18:=getF_is Tryz.func18 (by kernel_rfl)
noncomputable def ft20:FnT:=getF Tryz.prog Tryz.f20 [tF 0 [0,1,2],tF 1 [6]] []
theorem is20:ft20.Is Tryz.prog 20:=getF_is Tryz.func20 (by kernel_rfl)
noncomputable def ft22:FnT:=getF Tryz.prog Tryz.f22 [tF 0 [1,2],tF 1 [2]] []
theorem is22:ft22.Is Tryz.prog 22:=getF_is Tryz.func22 (by kernel_rfl)
noncomputable def ft24:FnT:=getF Tryz.prog Tryz.f24 [tF 0 [2,3,4],tF 1 [2,4,6,7],tF 2 [2,4,6,7,19],tF 3 [4,5],tF 4 [4,5]] []
theorem is24:ft24.Is Tryz.prog 24:=getF_is Tryz.func24 (by kernel_rfl)
noncomputable def ft39:FnT:=getF Tryz.prog Tryz.f39 [tF 0 [1],tF 1 [1,4,5],tF 2 [1,4,5,15],tF 3 [2,3],tF 4 [7],tF 5 [2,3]] []
theorem is39:ft39.Is Tryz.prog 39:=getF_is Tryz.func39 (by kernel_rfl)
noncomputable def ft40:FnT:=getF Tryz.prog Tryz.f40 [tF 0 [1,4],tF 1 [1,4,5],tF 2 [1,4,5,6],tF 3 [1,4,5,6,11,12,13],tF 4 [1,4,5,6,11,12,13,14],tF 5 [1,4,5,6,7,8,11,12,13],tF 6 [1,4,5,6,7,8,9,11,12,13],tF 7 [1,4,5,6,7,9,11,12,13],tF 8 [1,4,5,6,7,9,11,12,13,31],tF 9 [2,3,4],tF 10 [1,4,5,6,9,11,12,13,51],tF 11 [1,4,5,6,9,11,12,13],tF 12 [1,4,5,6,11,12,13],tF 13 [1,4,5,6,11,12,13],tF 14 [4,5,6,61],tF 15 [4,5,6],tF 16 [2,3,4]] [(4,⟨[1,4,5,6,11,12,13],true,[⟨false,5,0,20005,0⟩,⟨false,6,0,20006,0⟩,⟨false,11,0,20011,0⟩,⟨false,13,0,20013,0⟩],[]⟩)]
theorem is40:ft40.Is Tryz.prog 40:=getF_is Tryz.func40 (by kernel_rfl)
noncomputable def ft41:FnT:=getF Tryz.prog Tryz.f41 [tF 0 [0],tF 1 [0]] []
theorem is41:ft41.Is Tryz.prog 41:=getF_is Tryz.func41 (by kernel_rfl)
noncomputable def ft43:FnT:=getF Tryz.prog Tryz.f43 [tF 0 [1],tF 1 [1,3],tF 2 [1,3,7],tF 3 [2],tF 4 [11],tF 5 [2],tF 6 [2]] []
theorem is43:ft43.Is Tryz.prog 43:=getF_is Tryz.func43 (by kernel_rfl)
noncomputable def ft44:FnT:=getF Tryz.prog Tryz.f44 [tF 0 [1,2],tF 1 [2]] []
theorem is44:ft44.Is Tryz.prog 44:=getF_is Tryz.func44 (by kernel_rfl)
noncomputable def ft45:FnT:=getF Tryz.prog Tryz.f45 [tF 0 [1],tF 1 [2]] []
theorem is45:ft45.Is Tryz.prog 45:=getF_is Tryz.func45 (by kernel_rfl)
noncomputable def ft46:FnT:=getF Tryz.prog Tryz.f46 [tF 0 [2,3,4],tF 1 [4]] []
theorem is46:ft46.Is Tryz.prog 46:=getF_is Tryz.func46 (by kernel_rfl)
noncomputable def ft47:FnT:=getF Tryz.prog Tryz.f47 [tF 0 [2,3,4],tF 1 [4]] []
theorem is47:ft47.Is Tryz.prog 47:=getF_is Tryz.func47 (by kernel_rfl)
noncomputable def ft48:FnT:=getF Tryz.prog Tryz.f48 [tF 0 [1,2],tF 1 [4]] []
theorem is48:ft48.Is Tryz.prog 48:=getF_is Tryz.func48 (by kernel_rfl)
noncomputable def ft49:FnT:=getF Tryz.prog Tryz.f49 [tF 0 [1,2],tF 1 [2]] []
theorem is49:ft49.Is Tryz.prog 49:=getF_is Tryz.func49 (by kernel_rfl)
noncomputable def ft50:FnT:=getF Tryz.prog Tryz.f50 [tF 0 [1],tF 1 [1,3,4],tF 2 [4,11],tF 3 [2],tF 4 [34],tF 5 [2],tF 6 [2]] []
theorem is50:ft50.Is Tryz.prog 50:=getF_is Tryz.func50 (by kernel_rfl)
noncomputable def ft51:FnT:=getF Tryz.prog Tryz.f51 [tF 0 [1,2,4],tF 1 [1,2,4,6],tF 2 [2,4,6,13],tF 3 [2,4,6,7],tF 4 [2,4,6],tF 5 [4,5],tF 6 [2,4,6,8],tF 7 [2,4,6],tF 8 [4,5]] []
theorem is51:ft51.Is Tryz.prog 51:=getF_is Tryz.func51 (by kernel_rfl)
noncomputable def ft52:FnT:=getF Tryz.prog Tryz.f52 [tF 0 [3,4,5,6],tF 1 [6]] []
theorem is52:ft52.Is Tryz.prog 52:=getF_is Tryz.func52 (by kernel_rfl)
noncomputable def ft53:FnT:=getF Tryz.prog Tryz.f53 [tF 0 [1],tF 1 [1,11],tF 2 [2,3],tF 3 [1,4],tF 4 [1,4,16],tF 5 [2,3],tF 6 [1,21],tF 7 [2,3],tF 8 [1,5],tF 9 [1,5,26],tF 10 [2,3],tF 11 [1,31],tF 12 [2,3],tF 13 [1,33,34,35],tF 14 [1,33,34,35,36],tF 15 [1,6,7,33,34,35],tF 16 [1,6,7,33,34,35,40],tF 17 [2,3],tF 18 [1,6,33,34,35,75],tF 19 [2,3],tF 20 [1,33,34,35],tF 21 [106],tF 22 [2,3],tF 23 [2,3]] [(14,⟨[1,33,34,35],true,[⟨false,33,0,20033,0⟩,⟨false,35,0,20035,0⟩],[]⟩)]
theorem is53:ft53.Is Tryz.prog 53:=getF_is Tryz.func53 (by kernel_rfl)
noncomputable def ft70:FnT:=getF Tryz.prog Tryz.f70 [tF 0 [2,3],tF 1 [2,5,6],tF 2 [6,7,8,9,10],tF 3 [7,8,9,10,31],tF 4 [4],tF 5 [7,8,9,10,34],tF 6 [4],tF 7 [43],tF 8 [4],tF 9 [4]] []
theorem is70:ft70.Is Tryz.prog 70:=getF_is Tryz.func70 (by kernel_rfl)
noncomputable def ft71:FnT:=getF Tryz.prog Tryz.f71 [tF 0 [0],tF 1 [0,7],tF 2 [2,3],tF 3 [0,11],tF 4 [2,3],tF 5 [15,16,17],tF 6 [15,16,17,18],tF 7 [4,5,15,16,17],tF 8 [4,6,15,16,17],tF 9 [4,6,15,16,17,25],tF 10 [2,3],tF 11 [15,16,17],tF 12 [2,3]] [(6,⟨[15,16,17],true,[⟨false,15,0,20015,0⟩,⟨false,17,0,20017,0⟩],[]⟩)]
theorem is71:ft71.Is Tryz.prog 71:=getF_is Tryz.func71 (by kernel_rfl)
noncomputable def ft72:FnT:=getF Tryz.prog Tryz.f72 [tF 0 [0,2,4],tF 1 [0,2,4,17],tF 2 [0],tF 3 [0,6],tF 4 [0,2,4,7],tF 5 [0,2,4,7,44],tF 6 [0],tF 7 [0,6],tF 8 [0,2,4,8],tF 9 [0,2,4,8,55],tF 10 [0],tF 11 [0,6],tF 12 [0,2,4,8],tF 13 [0,2,9],tF 14 [0,6]] []
theorem is72:ft72.Is Tryz.prog 72:=getF_is Tryz.func72 (by kernel_rfl)
noncomputable def ft73:FnT:=getF Tryz.prog Tryz.f73 [tF 0 [1],tF 1 [1,3],tF 2 [2],tF 3 [7],tF 4 [2],tF 5 [2]] []
theorem is73:ft73.Is Tryz.prog 73:=getF_is Tryz.func73 (by kernel_rfl)
noncomputable def ft75:FnT:=getF Tryz.prog Tryz.f75 [tF 0 [0,1,4],tF 1 [0,1,4,5],tF 2 [0,1,4,5,12],tF 3 [0,1,4,5],tF 4 [4]] []
theorem is75:ft75.Is Tryz.prog 75:=getF_is Tryz.func75 (by kernel_rfl)
noncomputable def ft76:FnT:=getF Tryz.prog Tryz.f76 [tF 0 [1],tF 1 [2]] []
theorem is76:ft76.Is Tryz.prog 76:=getF_is Tryz.func76 (by kernel_rfl)
noncomputable def ft77:FnT:=getF Tryz.prog Tryz.f77 [tF 0 [1,2],tF 1 [1,2,3],tF 2 [2]] []
theorem is77:ft77.Is Tryz.prog 77:=getF_is Tryz.func77 (by kernel_rfl)
noncomputable def ft78:FnT:=getF Tryz.prog Tryz.f78 [tF 0 [0],tF 1 [2]] []
theorem is78:ft78.Is Tryz.prog 78:=getF_is Tryz.func78 (by kernel_rfl)
noncomputable def ft79:FnT:=getF Tryz.prog Tryz.f79 [tF 0 [1,2],tF 1 [2,5],tF 2 [4],tF 3 [18],tF 4 [4],tF 5 [4]] []
theorem is79:ft79.Is Tryz.prog 79:=getF_is Tryz.func79 (by kernel_rfl)
noncomputable def ft80:FnT:=getF Tryz.prog Tryz.f80 [tF 0 [0],tF 1 [2]] []
theorem is80:ft80.Is Tryz.prog 80:=getF_is Tryz.func80 (by kernel_rfl)
noncomputable def ft81:FnT:=getF Tryz.prog Tryz.f81 [tF 0 [0,1,2],tF 1 [6]] []
theorem is81:ft81.Is Tryz.prog 81:=getF_is Tryz.func81 (by kernel_rfl)
noncomputable def ft82:FnT:=getF Tryz.prog Tryz.f82 [tF 0 [0],tF 1 [2]] []
theorem is82:ft82.Is Tryz.prog 82:=getF_is Tryz.func82 (by kernel_rfl)
noncomputable def ft83:FnT:=getF Tryz.prog Tryz.f83 [tF 0 [0],tF 1 [2]] []
theorem is83:ft83.Is Tryz.prog 83:=getF_is Tryz.func83 (by kernel_rfl)
noncomputable def ft84:FnT:=getF Tryz.prog Tryz.f84 [tF 0 [0],tF 1 [2]] []
theorem is84:ft84.Is Tryz.prog 84:=getF_is Tryz.func84 (by kernel_rfl)
noncomputable def ft110:FnT:=getF Tryz.prog Tryz.f110 [tF 0 [1],tF 1 [1,3],tF 2 [2],tF 3 [1,7],tF 4 [2],tF 5 [1,18],tF 6 [2],tF 7 [1,26],tF 8 [2],tF 9 [1,31],tF 10 [2],tF 11 [1,39],tF 12 [2],tF 13 [50],tF 14 [2],tF 15 [2]] []
theorem is110:ft110.Is Tryz.prog 110:=getF_is Tryz.func110 (by kernel_rfl)
noncomputable def ft111:FnT:=getF Tryz.prog Tryz.f111 [tF 0 [1],tF 1 [2]] []
theorem is111:ft111.Is Tryz.prog 111:=getF_is Tryz.func111 (by kernel_rfl)
noncomputable def ft112:FnT:=getF Tryz.prog Tryz.f112 [tF 0 [0,1,4],tF 1 [4]] []
theorem is112:ft112.Is Tryz.prog 112:=getF_is Tryz.func112 (by kernel_rfl)
noncomputable def ft113:FnT:=getF Tryz.prog Tryz.f113 [tF 0 [1],tF 1 [1,3],tF 2 [2]] []
theorem is113:ft113.Is Tryz.prog 113:=getF_is Tryz.func113 (by kernel_rfl)
noncomputable def ft114:FnT:=getF Tryz.prog Tryz.f114 [tF 0 [0,1],tF 1 [0,1,6],tF 2 [0,1],tF 3 [4]] [(1,⟨[0,1],true,[⟨false,0,0,20000,0⟩,⟨false,1,0,20001,0⟩],[]⟩)]
theorem is114:ft114.Is Tryz.prog 114:=getF_is Tryz.func114 (by kernel_rfl)
noncomputable def ft141:FnT:=getF Tryz.prog Tryz.f141 [tF 0 [1],tF 1 [2]] []
theorem is141:ft141.Is Tryz.prog 141:=getF_is Tryz.func141 (by kernel_rfl)
noncomputable def ft142:FnT:=getF Tryz.prog Tryz.f142 [tF 0 [1,2,3],tF 1 [6]] []
theorem is142:ft142.Is Tryz.prog 142:=getF_is Tryz.func142 (by kernel_rfl)
noncomputable def tblM:List (Nat × FnT):=[(4,ft4),(15,ft15),(16,ft16),(17,ft17),(18,ft18),(20,ft20),(22,ft22),(24,ft24),(39,ft39),(40,ft40),(41,ft41),(43,ft43),(44,ft44),(45,ft45),(46,ft46),(47,ft47),(48,ft48),(49,ft49),(50,ft50),(51,ft51),(52,ft52),(53,ft53),(70,ft70),(71,ft71),(72,ft72),(73,ft73),(75,ft75),(76,ft76),(77,ft77),(78,ft78),(79,ft79),(80,ft80),(81,ft81),(82,ft82),(83,ft83),(84,ft84),(110,ft110),(111,ft111),(112,ft112),(113,ft113),(114,ft114),(141,ft141),(142,ft142)]
theorem tblMOk:TblOk Tryz.prog tblM:=⟨is4,is15,is16,is17,is18,is20,is22,is24,is39,is40,is41,is43,is44,is45,is46,is47,is48,is49,is50,is51,is52,is53,is70,is71,is72,is73,is75,is76,is77,is78,is79,is80,is81,is82,is83,is84,is110,is111,is112,is113,is114,is141,is142,trivial⟩
end Go.AM
