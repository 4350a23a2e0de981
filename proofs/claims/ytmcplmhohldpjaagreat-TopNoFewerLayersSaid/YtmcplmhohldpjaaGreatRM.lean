/- The code of the functions that the first examples of chapter 4 run. -/
import Derived.Test.YtmcplmhohldpjaaGreatAMc
import Derived.Test.YtmcplmhohldpjaaGreatProg
namespace Go.AM
open Go.Proofs
set_option maxRecDepth 100000
set_option linter.unusedVariables false
noncomputable def dE (P:Program)(fn:Func)(tr tl:List (Nat × cH)):FnT:=⟨fn.ntmps,tr,tl,(fn.body.bind (mk P fn.ntmps tr tl true)).getD .skip,(gF P fn.results.toList).getD []⟩
def FnT.Is (t:FnT)(P:Program)(f:Nat):Prop:=vn P f t.nt t.tr t.tl t.ac t.rs
def okF (P : Program) (fn : Func) (tr tl : List (Nat × cH)) : Bool := (fn.body.bind (mk P fn.ntmps tr tl true)).isSome && ((gF P fn.results.toList).isSome && !(fn.name == "runtime.NumGoroutine"))
theorem aY {P:Program}{f:Nat}{fn:Func}{tr tl:List (Nat × cH)}(h:P.funcs[f]?=some fn)(hk:okF P fn tr tl=true):(dE P fn tr tl).Is P f:=by
 unfold okF at hk
 simp only [Bool.and_eq_true] at hk
 obtain⟨h1,h2,h3⟩:=hk
 obtain⟨x,hx⟩:=Option.isSome_iff_exists.1 h1
 obtain⟨y,hy⟩:=Option.isSome_iff_exists.1 h2
 refine⟨fn,h,rfl,?_,?_,by simpa using h3⟩
 ·show fn.body.bind (mk P fn.ntmps tr tl true)=some ((fn.body.bind (mk P fn.ntmps tr tl true)).getD .skip)
  rw [hx];rfl
 ·show gF P fn.results.toList=some ((gF P fn.results.toList).getD [])
  rw [hy];rfl
noncomputable def ft6:FnT:=dE Tryz.prog Tryz.f6 [tF 0 [],tF 1 [1,4],tF 2 [1,4,5,6],tF 3 [0]] []
theorem is6:ft6.Is Tryz.prog 6:=aY Tryz.func6 (by kernel_rfl)
noncomputable def ft8:FnT:=dE Tryz.prog Tryz.f8 [tF 0 [1,4],tF 1 [1,4,7],tF 2 [1,4,7,17],tF 3 [2,3,4,5],tF 4 [4,8,9,10],tF 5 [2,3,4,5]] []
theorem is8:ft8.Is Tryz.prog 8:=aY Tryz.func8 (by kernel_rfl)
noncomputable def anV:FnT:=dE Tryz.prog Tryz.f26 [tF 0 [0],tF 1 [0]] []
theorem asI:anV.Is Tryz.prog 26:=aY Tryz.func26 (by kernel_rfl)
noncomputable def ao9:FnT:=dE Tryz.prog Tryz.f27 [tF 0 [0,3,4,5],tF 1 [0,3,4,5,15],tF 2 [4,5],tF 3 [0,3,4,5,21,22,23],tF 4 [0,3,4,5,21,22,23,24],tF 5 [0,3,4,5,7,21,22,23],tF 6 [0,3,4,5,8,21,22,23],tF 7 [0,3,4,5,8,21,22,23,30],tF 8 [4,5],tF 9 [0,3,4,5,21,22,23],tF 10 [0,4,5,9],tF 11 [4,5,9,37],tF 12 [4,5,9,11],tF 13 [4,5,9,12],tF 14 [4,5,9],tF 15 [4,5,9,49],tF 16 [4,5],tF 17 [4,5]] [(4,⟨[0,3,4,5,21,22,23],true,[⟨false,21,0,20021,0⟩,⟨false,23,0,20023,0⟩],[]⟩),(13,⟨[4,5,9],true,[],[]⟩)]
theorem asN:ao9.Is Tryz.prog 27:=aY Tryz.func27 (by kernel_rfl)
noncomputable def aoC:FnT:=dE Tryz.prog Tryz.f28 [tF 0 [0,2],tF 1 [2]] []
theorem asH:aoC.Is Tryz.prog 28:=aY Tryz.func28 (by kernel_rfl)
noncomputable def am9:FnT:=dE Tryz.prog Tryz.f94 [tF 0 [0,1,2],tF 1 [6]] []
theorem asM:am9.Is Tryz.prog 94:=aY Tryz.func94 (by kernel_rfl)
noncomputable def aqQ:FnT:=dE Tryz.prog Tryz.f72 [tF 0 [1,2],tF 1 [2]] []
theorem atb:aqQ.Is Tryz.prog 72:=aY Tryz.func72 (by kernel_rfl)
noncomputable def ahO:FnT:=dE Tryz.prog Tryz.f160 [tF 0 [2,3,4],tF 1 [2,4,6,7],tF 2 [2,4,6,7,19],tF 3 [4,5],tF 4 [4,5]] []
theorem anS:ahO.Is Tryz.prog 160:=aY Tryz.func160 (by kernel_rfl)
noncomputable def ao8:FnT:=dE Tryz.prog Tryz.f29 [tF 0 [1],tF 1 [1,4,5],tF 2 [1,4,5,15],tF 3 [2,3],tF 4 [7],tF 5 [2,3]] []
theorem auh:ao8.Is Tryz.prog 29:=aY Tryz.func29 (by kernel_rfl)
noncomputable def ann:FnT:=dE Tryz.prog Tryz.f30 [tF 0 [1,4],tF 1 [1,4,5],tF 2 [1,4,5,6],tF 3 [1,4,5,6,11,12,13],tF 4 [1,4,5,6,11,12,13,14],tF 5 [1,4,5,6,7,8,11,12,13],tF 6 [1,4,5,6,7,8,9,11,12,13],tF 7 [1,4,5,6,7,9,11,12,13],tF 8 [1,4,5,6,7,9,11,12,13,31],tF 9 [2,3,4],tF 10 [1,4,5,6,9,11,12,13,51],tF 11 [1,4,5,6,9,11,12,13],tF 12 [1,4,5,6,11,12,13],tF 13 [1,4,5,6,11,12,13],tF 14 [4,5,6,61],tF 15 [4,5,6],tF 16 [2,3,4]] [(4,⟨[1,4,5,6,11,12,13],true,[⟨false,5,0,20005,0⟩,⟨false,6,0,20006,0⟩,⟨false,11,0,20011,0⟩,⟨false,13,0,20013,0⟩],[]⟩)]
theorem asX:ann.Is Tryz.prog 30:=aY Tryz.func30 (by kernel_rfl)
noncomputable def amT:FnT:=dE Tryz.prog Tryz.f60 [tF 0 [0],tF 1 [0]] []
theorem aut:amT.Is Tryz.prog 60:=aY Tryz.func60 (by kernel_rfl)
noncomputable def aqz:FnT:=dE Tryz.prog Tryz.f62 [tF 0 [1],tF 1 [1,3],tF 2 [1,3,7],tF 3 [2],tF 4 [11],tF 5 [2],tF 6 [2]] []
theorem aup:aqz.Is Tryz.prog 62:=aY Tryz.func62 (by kernel_rfl)
noncomputable def amS:FnT:=dE Tryz.prog Tryz.f63 [tF 0 [1,2],tF 1 [2]] []
theorem atk:amS.Is Tryz.prog 63:=aY Tryz.func63 (by kernel_rfl)
noncomputable def aol:FnT:=dE Tryz.prog Tryz.f64 [tF 0 [1],tF 1 [2]] []
theorem atV:aol.Is Tryz.prog 64:=aY Tryz.func64 (by kernel_rfl)
noncomputable def ao7:FnT:=dE Tryz.prog Tryz.f65 [tF 0 [2,3,4],tF 1 [4]] []
theorem atE:ao7.Is Tryz.prog 65:=aY Tryz.func65 (by kernel_rfl)
noncomputable def an1:FnT:=dE Tryz.prog Tryz.f66 [tF 0 [2,3,4],tF 1 [4]] []
theorem as5:an1.Is Tryz.prog 66:=aY Tryz.func66 (by kernel_rfl)
noncomputable def apz:FnT:=dE Tryz.prog Tryz.f67 [tF 0 [1,2],tF 1 [4]] []
theorem auq:apz.Is Tryz.prog 67:=aY Tryz.func67 (by kernel_rfl)
noncomputable def amB:FnT:=dE Tryz.prog Tryz.f68 [tF 0 [1,2],tF 1 [2]] []
theorem atT:amB.Is Tryz.prog 68:=aY Tryz.func68 (by kernel_rfl)
noncomputable def ahj:FnT:=dE Tryz.prog Tryz.f121 [tF 0 [1],tF 1 [1,3,4],tF 2 [4,11],tF 3 [2],tF 4 [34],tF 5 [2],tF 6 [2]] []
theorem anv:ahj.Is Tryz.prog 121:=aY Tryz.func121 (by kernel_rfl)
noncomputable def ahT:FnT:=dE Tryz.prog Tryz.f122 [tF 0 [1,2,4],tF 1 [1,2,4,6],tF 2 [2,4,6,13],tF 3 [2,4,6,7],tF 4 [2,4,6],tF 5 [4,5],tF 6 [2,4,6,8],tF 7 [2,4,6],tF 8 [4,5]] []
theorem ani:ahT.Is Tryz.prog 122:=aY Tryz.func122 (by kernel_rfl)
noncomputable def apB:FnT:=dE Tryz.prog Tryz.f71 [tF 0 [3,4,5,6],tF 1 [6]] []
theorem at2:apB.Is Tryz.prog 71:=aY Tryz.func71 (by kernel_rfl)
noncomputable def amw:FnT:=dE Tryz.prog Tryz.f70 [tF 0 [1],tF 1 [1,11],tF 2 [2,3],tF 3 [1,4],tF 4 [1,4,16],tF 5 [2,3],tF 6 [1,21],tF 7 [2,3],tF 8 [1,5],tF 9 [1,5,26],tF 10 [2,3],tF 11 [1,31],tF 12 [2,3],tF 13 [1,33,34,35],tF 14 [1,33,34,35,36],tF 15 [1,6,7,33,34,35],tF 16 [1,6,7,33,34,35,40],tF 17 [2,3],tF 18 [1,6,33,34,35,75],tF 19 [2,3],tF 20 [1,33,34,35],tF 21 [106],tF 22 [2,3],tF 23 [2,3]] [(14,⟨[1,33,34,35],true,[⟨false,33,0,20033,0⟩,⟨false,35,0,20035,0⟩],[]⟩)]
theorem atm:amw.Is Tryz.prog 70:=aY Tryz.func70 (by kernel_rfl)
noncomputable def ahD:FnT:=dE Tryz.prog Tryz.f118 [tF 0 [2,3],tF 1 [2,5,6],tF 2 [6,7,8,9,10],tF 3 [7,8,9,10,31],tF 4 [4],tF 5 [7,8,9,10,34],tF 6 [4],tF 7 [43],tF 8 [4],tF 9 [4]] []
theorem ao6:ahD.Is Tryz.prog 118:=aY Tryz.func118 (by kernel_rfl)
noncomputable def aom:FnT:=dE Tryz.prog Tryz.f69 [tF 0 [0],tF 1 [0,7],tF 2 [2,3],tF 3 [0,11],tF 4 [2,3],tF 5 [15,16,17],tF 6 [15,16,17,18],tF 7 [4,5,15,16,17],tF 8 [4,6,15,16,17],tF 9 [4,6,15,16,17,25],tF 10 [2,3],tF 11 [15,16,17],tF 12 [2,3]] [(6,⟨[15,16,17],true,[⟨false,15,0,20015,0⟩,⟨false,17,0,20017,0⟩],[]⟩)]
theorem asV:aom.Is Tryz.prog 69:=aY Tryz.func69 (by kernel_rfl)
noncomputable def aqm:FnT:=dE Tryz.prog Tryz.f73 [tF 0 [0,2,4],tF 1 [0,2,4,17],tF 2 [0],tF 3 [0,6],tF 4 [0,2,4,7],tF 5 [0,2,4,7,44],tF 6 [0],tF 7 [0,6],tF 8 [0,2,4,8],tF 9 [0,2,4,8,55],tF 10 [0],tF 11 [0,6],tF 12 [0,2,4,8],tF 13 [0,2,9],tF 14 [0,6]] []
theorem at4:aqm.Is Tryz.prog 73:=aY Tryz.func73 (by kernel_rfl)
noncomputable def ah5:FnT:=dE Tryz.prog Tryz.f111 [tF 0 [1],tF 1 [1,3],tF 2 [2],tF 3 [7],tF 4 [2],tF 5 [2]] []
theorem am7:ah5.Is Tryz.prog 111:=aY Tryz.func111 (by kernel_rfl)
noncomputable def ahL:FnT:=dE Tryz.prog Tryz.f113 [tF 0 [0,1,4],tF 1 [0,1,4,5],tF 2 [0,1,4,5,12],tF 3 [0,1,4,5],tF 4 [4]] []
theorem aq4:ahL.Is Tryz.prog 113:=aY Tryz.func113 (by kernel_rfl)
noncomputable def ah7:FnT:=dE Tryz.prog Tryz.f161 [tF 0 [1],tF 1 [2]] []
theorem app:ah7.Is Tryz.prog 161:=aY Tryz.func161 (by kernel_rfl)
noncomputable def ah3:FnT:=dE Tryz.prog Tryz.f162 [tF 0 [1,2],tF 1 [1,2,3],tF 2 [2]] []
theorem arg:ah3.Is Tryz.prog 162:=aY Tryz.func162 (by kernel_rfl)
noncomputable def ag0:FnT:=dE Tryz.prog Tryz.f107 [tF 0 [0],tF 1 [2]] []
theorem aqd:ag0.Is Tryz.prog 107:=aY Tryz.func107 (by kernel_rfl)
noncomputable def ahK:FnT:=dE Tryz.prog Tryz.f115 [tF 0 [1,2],tF 1 [2,5],tF 2 [4],tF 3 [18],tF 4 [4],tF 5 [4]] []
theorem aqu:ahK.Is Tryz.prog 115:=aY Tryz.func115 (by kernel_rfl)
noncomputable def ahz:FnT:=dE Tryz.prog Tryz.f116 [tF 0 [0],tF 1 [2]] []
theorem amA:ahz.Is Tryz.prog 116:=aY Tryz.func116 (by kernel_rfl)
noncomputable def ahk:FnT:=dE Tryz.prog Tryz.f110 [tF 0 [0,1,2],tF 1 [6]] []
theorem aoS:ahk.Is Tryz.prog 110:=aY Tryz.func110 (by kernel_rfl)
noncomputable def ahR:FnT:=dE Tryz.prog Tryz.f117 [tF 0 [0],tF 1 [2]] []
theorem ank:ahR.Is Tryz.prog 117:=aY Tryz.func117 (by kernel_rfl)
noncomputable def ahE:FnT:=dE Tryz.prog Tryz.f109 [tF 0 [0],tF 1 [2]] []
theorem aoI:ahE.Is Tryz.prog 109:=aY Tryz.func109 (by kernel_rfl)
noncomputable def ahZ:FnT:=dE Tryz.prog Tryz.f108 [tF 0 [0],tF 1 [2]] []
theorem amx:ahZ.Is Tryz.prog 108:=aY Tryz.func108 (by kernel_rfl)
noncomputable def ahF:FnT:=dE Tryz.prog Tryz.f114 [tF 0 [1],tF 1 [1,3],tF 2 [2],tF 3 [1,7],tF 4 [2],tF 5 [1,18],tF 6 [2],tF 7 [1,26],tF 8 [2],tF 9 [1,31],tF 10 [2],tF 11 [1,39],tF 12 [2],tF 13 [50],tF 14 [2],tF 15 [2]] []
theorem anm:ahF.Is Tryz.prog 114:=aY Tryz.func114 (by kernel_rfl)
noncomputable def ag7:FnT:=dE Tryz.prog Tryz.f119 [tF 0 [1],tF 1 [2]] []
theorem aoA:ag7.Is Tryz.prog 119:=aY Tryz.func119 (by kernel_rfl)
noncomputable def ah4:FnT:=dE Tryz.prog Tryz.f120 [tF 0 [0,1,4],tF 1 [4]] []
theorem aqG:ah4.Is Tryz.prog 120:=aY Tryz.func120 (by kernel_rfl)
noncomputable def ahB:FnT:=dE Tryz.prog Tryz.f156 [tF 0 [1],tF 1 [1,3],tF 2 [2]] []
theorem aqR:ahB.Is Tryz.prog 156:=aY Tryz.func156 (by kernel_rfl)
noncomputable def ah1:FnT:=dE Tryz.prog Tryz.f157 [tF 0 [0,1],tF 1 [0,1,6],tF 2 [0,1],tF 3 [4]] [(1,⟨[0,1],true,[⟨false,0,0,20000,0⟩,⟨false,1,0,20001,0⟩],[]⟩)]
theorem ark:ah1.Is Tryz.prog 157:=aY Tryz.func157 (by kernel_rfl)
noncomputable def ag6:FnT:=dE Tryz.prog Tryz.f158 [tF 0 [1],tF 1 [2]] []
theorem ami:ag6.Is Tryz.prog 158:=aY Tryz.func158 (by kernel_rfl)
noncomputable def ahx:FnT:=dE Tryz.prog Tryz.f159 [tF 0 [1,2,3],tF 1 [6]] []
theorem amE:ahx.Is Tryz.prog 159:=aY Tryz.func159 (by kernel_rfl)
noncomputable def acq:List (Nat × FnT):=[(6,ft6),(8,ft8),(26,anV),(27,ao9),(28,aoC),(94,am9),(72,aqQ),(160,ahO),(29,ao8),(30,ann),(60,amT),(62,aqz),(63,amS),(64,aol),(65,ao7),(66,an1),(67,apz),(68,amB),(121,ahj),(122,ahT),(71,apB),(70,amw),(118,ahD),(69,aom),(73,aqm),(111,ah5),(113,ahL),(161,ah7),(162,ah3),(107,ag0),(115,ahK),(116,ahz),(110,ahk),(117,ahR),(109,ahE),(108,ahZ),(114,ahF),(119,ag7),(120,ah4),(156,ahB),(157,ah1),(158,ag6),(159,ahx)]
theorem aiu:B8 Tryz.prog acq:=⟨is6,is8,asI,asN,asH,asM,atb,anS,auh,asX,aut,aup,atk,atV,atE,as5,auq,atT,anv,ani,at2,atm,ao6,asV,at4,am7,aq4,app,arg,aqd,aqu,amA,aoS,ank,aoI,amx,anm,aoA,aqG,aqR,ark,ami,amE,trivial⟩
end Go.AM
