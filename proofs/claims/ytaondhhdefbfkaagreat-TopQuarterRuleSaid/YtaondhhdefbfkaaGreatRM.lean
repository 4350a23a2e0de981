/- The code of the functions that the first examples of chapter 4 run. -/
import Derived.Test.YtaondhhdefbfkaaGreatAMc
import Derived.Test.YtaondhhdefbfkaaGreatProg
namespace Go.AM
open Go.Proofs
set_option maxRecDepth 100000
set_option linter.unusedVariables false
noncomputable def getF (P:Program)(fn:Func)(tr tl:List (Nat × Tidy)):FnT:=⟨fn.ntmps,tr,tl,(fn.body.bind (mk P fn.ntmps tr tl true)).getD .skip,(fnRes P fn.results.toList).getD []⟩
def FnT.Is (t:FnT)(P:Program)(f:Nat):Prop:=FnIs P f t.nt t.tr t.tl t.ac t.rs
def okF (P : Program) (fn : Func) (tr tl : List (Nat × Tidy)) : Bool := (fn.body.bind (mk P fn.ntmps tr tl true)).isSome && ((fnRes P fn.results.toList).isSome && !(fn.name == "runtime.NumGoroutine"))
theorem getF_is {P:Program}{f:Nat}{fn:Func}{tr tl:List (Nat × Tidy)}(h:P.funcs[f]?=some fn)(hk:okF P fn tr tl=true):(getF P fn tr tl).Is P f:=by
 unfold okF at hk
 simp only [Bool.and_eq_true] at hk
 obtain⟨h1,h2,h3⟩:=hk
 obtain⟨x,hx⟩:=Option.isSome_iff_exists.1 h1
 obtain⟨y,hy⟩:=Option.isSome_iff_exists.1 h2
 refine⟨fn,h,rfl,?_,?_,by simpa using h3⟩
 ·show fn.body.bind (mk P fn.ntmps tr tl true)=some ((fn.body.bind (mk P fn.ntmps tr tl true)).getD .skip)
  rw [hx];rfl
 ·show fnRes P fn.results.toList=some ((fnRes P fn.results.toList).getD [])
  rw [hy];rfl
noncomputable def ft4:FnT:=getF Tryz.prog Tryz.f4 [tF 0 [],tF 1 [1,4],tF 2 [1,4,5,6],tF 3 [0]] []
theorem is4:ft4.Is Tryz.prog 4:=getF_is Tryz.func4 (by kernel_rfl)
noncomputable def ft12:FnT:=getF Tryz.prog Tryz.f12 [tF 0 [1,4],tF 1 [1,4,7],tF 2 [1,4,7,17],tF 3 [2,3,4,5],tF 4 [4,8,9,10],tF 5 [2,3,4,5]] []
theorem is12:ft12.Is Tryz.prog 12:=getF_is Tryz.func12 (by kernel_rfl)
noncomputable def ft13:FnT:=getF Tryz.prog Tryz.f13 [tF 0 [0],tF 1 [0]] []
theorem is13:ft13.Is Tryz.prog 13:=getF_is Tryz.func13 (by kernel_rfl)
noncomputable def ft7:FnT:=getF Tryz.prog Tryz.f7 [tF 0 [0,3,4,5],tF 1 [0,3,4,5,15],tF 2 [4,5],tF 3 [0,3,4,5,21,22,23],tF 4 [0,3,4,5,21,22,23,24],tF 5 [0,3,4,5,7,21,22,23],tF 6 [0,3,4,5,8,21,22,23],tF 7 [0,3,4,5,8,21,22,23,30],tF 8 [4,5],tF 9 [0,3,4,5,21,22,23],tF 10 [0,4,5,9],tF 11 [4,5,9,37],tF 12 [4,5,9,11],tF 13 [4,5,9,12],tF 14 [4,5,9],tF 15 [4,5,9,49],tF 16 [4,5],tF 17 [4,5]] [(4,⟨[0,3,4,5,21,22,23],true,[⟨false,21,0,20021,0⟩,⟨false,23,0,20023,0⟩],[]⟩),(13,⟨[4,5,9],true,[],[]⟩)]
theorem is7:ft7.Is Tryz.prog 7:=getF_is Tryz.func7 (by kernel_rfl)
noncomputable def ft14:FnT:=getF Tryz.prog Tryz.f14 [tF 0 [0,2],tF 1 [2]] []
theorem is14:ft14.Is Tryz.prog 14:=getF_is Tryz.func14 (by kernel_rfl)
noncomputable def ft45:FnT:=getF Tryz.prog Tryz.f45 [tF 0 [0,1,2],tF 1 [6]] []
theorem is45:ft45.Is Tryz.prog 45:=getF_is Tryz.func45 (by kernel_rfl)
noncomputable def ft67:FnT:=getF Tryz.prog Tryz.f67 [tF 0 [1,2],tF 1 [2]] []
theorem is67:ft67.Is Tryz.prog 67:=getF_is Tryz.func67 (by kernel_rfl)
noncomputable def ft135:FnT:=getF Tryz.prog Tryz.f135 [tF 0 [2,3,4],tF 1 [2,4,6,7],tF 2 [2,4,6,7,19],tF 3 [4,5],tF 4 [4,5]] []
theorem is135:ft135.Is Tryz.prog 135:=getF_is Tryz.func135 (by kernel_rfl)
noncomputable def ft39:FnT:=getF Tryz.prog Tryz.f39 [tF 0 [1],tF 1 [1,4,5],tF 2 [1,4,5,15],tF 3 [2,3],tF 4 [7],tF 5 [2,3]] []
theorem is39:ft39.Is Tryz.prog 39:=getF_is Tryz.func39 (by kernel_rfl)
noncomputable def ft40:FnT:=getF Tryz.prog Tryz.f40 [tF 0 [1,4],tF 1 [1,4,5],tF 2 [1,4,5,6],tF 3 [1,4,5,6,11,12,13],tF 4 [1,4,5,6,11,12,13,14],tF 5 [1,4,5,6,7,8,11,12,13],tF 6 [1,4,5,6,7,8,9,11,12,13],tF 7 [1,4,5,6,7,9,11,12,13],tF 8 [1,4,5,6,7,9,11,12,13,31],tF 9 [2,3,4],tF 10 [1,4,5,6,9,11,12,13,51],tF 11 [1,4,5,6,9,11,12,13],tF 12 [1,4,5,6,11,12,13],tF 13 [1,4,5,6,11,12,13],tF 14 [4,5,6,61],tF 15 [4,5,6],tF 16 [2,3,4]] [(4,⟨[1,4,5,6,11,12,13],true,[⟨false,5,0,20005,0⟩,⟨false,6,0,20006,0⟩,⟨false,11,0,20011,0⟩,⟨false,13,0,20013,0⟩],[]⟩)]
theorem is40:ft40.Is Tryz.prog 40:=getF_is Tryz.func40 (by kernel_rfl)
noncomputable def ft41:FnT:=getF Tryz.prog Tryz.f41 [tF 0 [0],tF 1 [0]] []
theorem is41:ft41.Is Tryz.prog 41:=getF_is Tryz.func41 (by kernel_rfl)
noncomputable def ft17:FnT:=getF Tryz.prog Tryz.f17 [tF 0 [1],tF 1 [1,3],tF 2 [1,3,7],tF 3 [2],tF 4 [11],tF 5 [2],tF 6 [2]] []
theorem is17:ft17.Is Tryz.prog 17:=getF_is Tryz.func17 (by kernel_rfl)
noncomputable def ft18:FnT:=getF Tryz.prog Tryz.f18 [tF 0 [1,2],tF 1 [2]] []
theorem is18:ft18.Is Tryz.prog 18:=getF_is Tryz.func18 (by kernel_rfl)
noncomputable def ft19:FnT:=getF Tryz.prog Tryz.f19 [tF 0 [1],tF 1 [2]] []
theorem is19:ft19.Is Tryz.prog 19:=getF_is Tryz.func19 (by kernel_rfl)
noncomputable def ft20:FnT:=getF Tryz.prog Tryz.f20 [tF 0 [2,3,4],tF 1 [4]] []
theorem is20:ft20.Is Tryz.prog 20:=getF_is Tryz.func20 (by kernel_rfl)
noncomputable def ft21:FnT:=getF Tryz.prog Tryz.f21 [tF 0 [2,3,4],tF 1 [4]] []
theorem is21:ft21.Is Tryz.prog 21:=getF_is Tryz.func21 (by kernel_rfl)
noncomputable def ft22:FnT:=getF Tryz.prog Tryz.f22 [tF 0 [1,2],tF 1 [4]] []
theorem is22:ft22.Is Tryz.prog 22:=getF_is Tryz.func22 (by kernel_rfl)
noncomputable def ft23:FnT:=getF Tryz.prog Tryz.f23 [tF 0 [1,2],tF 1 [2]] []
theorem is23:ft23.Is Tryz.prog 23:=getF_is Tryz.func23 (by kernel_rfl)
noncomputable def ft106:FnT:=getF Tryz.prog Tryz.f106 [tF 0 [1],tF 1 [1,3,4],tF 2 [4,11],tF 3 [2],tF 4 [34],tF 5 [2],tF 6 [2]] []
theorem is106:ft106.Is Tryz.prog 106:=getF_is Tryz.func106 (by kernel_rfl)
noncomputable def ft107:FnT:=getF Tryz.prog Tryz.f107 [tF 0 [1,2,4],tF 1 [1,2,4,6],tF 2 [2,4,6,13],tF 3 [2,4,6,7],tF 4 [2,4,6],tF 5 [4,5],tF 6 [2,4,6,8],tF 7 [2,4,6],tF 8 [4,5]] []
theorem is107:ft107.Is Tryz.prog 107:=getF_is Tryz.func107 (by kernel_rfl)
noncomputable def ft66:FnT:=getF Tryz.prog Tryz.f66 [tF 0 [3,4,5,6],tF 1 [6]] []
theorem is66:ft66.Is Tryz.prog 66:=getF_is Tryz.func66 (by kernel_rfl)
noncomputable def ft48:FnT:=getF Tryz.prog Tryz.f48 [tF 0 [1],tF 1 [1,11],tF 2 [2,3],tF 3 [1,4],tF 4 [1,4,16],tF 5 [2,3],tF 6 [1,21],tF 7 [2,3],tF 8 [1,5],tF 9 [1,5,26],tF 10 [2,3],tF 11 [1,31],tF 12 [2,3],tF 13 [1,33,34,35],tF 14 [1,33,34,35,36],tF 15 [1,6,7,33,34,35],tF 16 [1,6,7,33,34,35,40],tF 17 [2,3],tF 18 [1,6,33,34,35,75],tF 19 [2,3],tF 20 [1,33,34,35],tF 21 [106],tF 22 [2,3],tF 23 [2,3]] [(14,⟨[1,33,34,35],true,[⟨false,33,0,20033,0⟩,⟨false,35,0,20035,0⟩],[]⟩)]
theorem is48:ft48.Is Tryz.prog 48:=getF_is Tryz.func48 (by kernel_rfl)
noncomputable def ft103:FnT:=getF Tryz.prog Tryz.f103 [tF 0 [2,3],tF 1 [2,5,6],tF 2 [6,7,8,9,10],tF 3 [7,8,9,10,31],tF 4 [4],tF 5 [7,8,9,10,34],tF 6 [4],tF 7 [43],tF 8 [4],tF 9 [4]] []
theorem is103:ft103.Is Tryz.prog 103:=getF_is Tryz.func103 (by kernel_rfl)
noncomputable def ft65:FnT:=getF Tryz.prog Tryz.f65 [tF 0 [0],tF 1 [0,7],tF 2 [2,3],tF 3 [0,11],tF 4 [2,3],tF 5 [15,16,17],tF 6 [15,16,17,18],tF 7 [4,5,15,16,17],tF 8 [4,6,15,16,17],tF 9 [4,6,15,16,17,25],tF 10 [2,3],tF 11 [15,16,17],tF 12 [2,3]] [(6,⟨[15,16,17],true,[⟨false,15,0,20015,0⟩,⟨false,17,0,20017,0⟩],[]⟩)]
theorem is65:ft65.Is Tryz.prog 65:=getF_is Tryz.func65 (by kernel_rfl)
noncomputable def ft68:FnT:=getF Tryz.prog Tryz.f68 [tF 0 [0,2,4],tF 1 [0,2,4,17],tF 2 [0],tF 3 [0,6],tF 4 [0,2,4,7],tF 5 [0,2,4,7,44],tF 6 [0],tF 7 [0,6],tF 8 [0,2,4,8],tF 9 [0,2,4,8,55],tF 10 [0],tF 11 [0,6],tF 12 [0,2,4,8],tF 13 [0,2,9],tF 14 [0,6]] []
theorem is68:ft68.Is Tryz.prog 68:=getF_is Tryz.func68 (by kernel_rfl)
noncomputable def ft43:FnT:=getF Tryz.prog Tryz.f43 [tF 0 [1],tF 1 [1,3],tF 2 [2],tF 3 [7],tF 4 [2],tF 5 [2]] []
theorem is43:ft43.Is Tryz.prog 43:=getF_is Tryz.func43 (by kernel_rfl)
noncomputable def ft25:FnT:=getF Tryz.prog Tryz.f25 [tF 0 [0,1,4],tF 1 [0,1,4,5],tF 2 [0,1,4,5,12],tF 3 [0,1,4,5],tF 4 [4]] []
theorem is25:ft25.Is Tryz.prog 25:=getF_is Tryz.func25 (by kernel_rfl)
noncomputable def ft136:FnT:=getF Tryz.prog Tryz.f136 [tF 0 [1],tF 1 [2]] []
theorem is136:ft136.Is Tryz.prog 136:=getF_is Tryz.func136 (by kernel_rfl)
noncomputable def ft137:FnT:=getF Tryz.prog Tryz.f137 [tF 0 [1,2],tF 1 [1,2,3],tF 2 [2]] []
theorem is137:ft137.Is Tryz.prog 137:=getF_is Tryz.func137 (by kernel_rfl)
noncomputable def ft70:FnT:=getF Tryz.prog Tryz.f70 [tF 0 [0],tF 1 [2]] []
theorem is70:ft70.Is Tryz.prog 70:=getF_is Tryz.func70 (by kernel_rfl)
noncomputable def ft71:FnT:=getF Tryz.prog Tryz.f71 [tF 0 [1,2],tF 1 [2,5],tF 2 [4],tF 3 [18],tF 4 [4],tF 5 [4]] []
theorem is71:ft71.Is Tryz.prog 71:=getF_is Tryz.func71 (by kernel_rfl)
noncomputable def ft72:FnT:=getF Tryz.prog Tryz.f72 [tF 0 [0],tF 1 [2]] []
theorem is72:ft72.Is Tryz.prog 72:=getF_is Tryz.func72 (by kernel_rfl)
noncomputable def ft73:FnT:=getF Tryz.prog Tryz.f73 [tF 0 [0,1,2],tF 1 [6]] []
theorem is73:ft73.Is Tryz.prog 73:=getF_is Tryz.func73 (by kernel_rfl)
noncomputable def ft74:FnT:=getF Tryz.prog Tryz.f74 [tF 0 [0],tF 1 [2]] []
theorem is74:ft74.Is Tryz.prog 74:=getF_is Tryz.func74 (by kernel_rfl)
noncomputable def ft75:FnT:=getF Tryz.prog Tryz.f75 [tF 0 [0],tF 1 [2]] []
theorem is75:ft75.Is Tryz.prog 75:=getF_is Tryz.func75 (by kernel_rfl)
noncomputable def ft76:FnT:=getF Tryz.prog Tryz.f76 [tF 0 [0],tF 1 [2]] []
theorem is76:ft76.Is Tryz.prog 76:=getF_is Tryz.func76 (by kernel_rfl)
noncomputable def ft102:FnT:=getF Tryz.prog Tryz.f102 [tF 0 [1],tF 1 [1,3],tF 2 [2],tF 3 [1,7],tF 4 [2],tF 5 [1,18],tF 6 [2],tF 7 [1,26],tF 8 [2],tF 9 [1,31],tF 10 [2],tF 11 [1,39],tF 12 [2],tF 13 [50],tF 14 [2],tF 15 [2]] []
theorem is102:ft102.Is Tryz.prog 102:=getF_is Tryz.func102 (by kernel_rfl)
noncomputable def ft104:FnT:=getF Tryz.prog Tryz.f104 [tF 0 [1],tF 1 [2]] []
theorem is104:ft104.Is Tryz.prog 104:=getF_is Tryz.func104 (by kernel_rfl)
noncomputable def ft105:FnT:=getF Tryz.prog Tryz.f105 [tF 0 [0,1,4],tF 1 [4]] []
theorem is105:ft105.Is Tryz.prog 105:=getF_is Tryz.func105 (by kernel_rfl)
noncomputable def ft24:FnT:=getF Tryz.prog Tryz.f24 [tF 0 [1],tF 1 [1,3],tF 2 [2]] []
theorem is24:ft24.Is Tryz.prog 24:=getF_is Tryz.func24 (by kernel_rfl)
noncomputable def ft46:FnT:=getF Tryz.prog Tryz.f46 [tF 0 [0,1],tF 1 [0,1,6],tF 2 [0,1],tF 3 [4]] [(1,⟨[0,1],true,[⟨false,0,0,20000,0⟩,⟨false,1,0,20001,0⟩],[]⟩)]
theorem is46:ft46.Is Tryz.prog 46:=getF_is Tryz.func46 (by kernel_rfl)
noncomputable def ft133:FnT:=getF Tryz.prog Tryz.f133 [tF 0 [1],tF 1 [2]] []
theorem is133:ft133.Is Tryz.prog 133:=getF_is Tryz.func133 (by kernel_rfl)
noncomputable def ft134:FnT:=getF Tryz.prog Tryz.f134 [tF 0 [1,2,3],tF 1 [6]] []
theorem is134:ft134.Is Tryz.prog 134:=getF_is Tryz.func134 (by kernel_rfl)
noncomputable def tblM:List (Nat × FnT):=[(4,ft4),(12,ft12),(13,ft13),(7,ft7),(14,ft14),(45,ft45),(67,ft67),(135,ft135),(39,ft39),(40,ft40),(41,ft41),(17,ft17),(18,ft18),(19,ft19),(20,ft20),(21,ft21),(22,ft22),(23,ft23),(106,ft106),(107,ft107),(66,ft66),(48,ft48),(103,ft103),(65,ft65),(68,ft68),(43,ft43),(25,ft25),(136,ft136),(137,ft137),(70,ft70),(71,ft71),(72,ft72),(73,ft73),(74,ft74),(75,ft75),(76,ft76),(102,ft102),(104,ft104),(105,ft105),(24,ft24),(46,ft46),(133,ft133),(134,ft134)]
theorem tblMOk:TblOk Tryz.prog tblM:=⟨is4,is12,is13,is7,is14,is45,is67,is135,is39,is40,is41,is17,is18,is19,is20,is21,is22,is23,is106,is107,is66,is48,is103,is65,is68,is43,is25,is136,is137,is70,is71,is72,is73,is74,is75,is76,is102,is104,is105,is24,is46,is133,is134,trivial⟩
end Go.AM
