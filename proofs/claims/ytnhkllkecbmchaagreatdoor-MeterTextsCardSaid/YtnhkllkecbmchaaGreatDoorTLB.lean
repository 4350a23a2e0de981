/- The library's functions of this seat, as the machine calls them. -/
import Derived.Test.YtnhkllkecbmchaaGreatDoorLBa
import Derived.Test.YtnhkllkecbmchaaGreatDoorTShP
namespace Go.AM.K
open Go.Proofs
set_option maxRecDepth 100000
abbrev nt61:Nat:=5
abbrev Tf61_0:Type 1:=TItoa
def f61_0:Tf61_0:=fItoa
def pa61_0:PT (List DV):=paItoa
def Fn61_0 (v:Tf61_0)(α:Type)(k:List RV->Option α):Int->Option α:=FnItoa v α k
theorem io61_0:InstOk Tryz.prog 61 nt61 ⟨pa61_0,Fn61_0 f61_0⟩:=
 inst_itoa ⟨Tryz.f61,Tryz.func61,by kernel_rfl,by kernel_rfl⟩ (by kernel_rfl) fun n h0 h1 w h=>Tryz.strconv_Itoa n h0 h1 w h
abbrev nt63:Nat:=18
abbrev Tf63_0:Type 1:=TAtoi
def f63_0:Tf63_0:=fAtoi
def pa63_0:PT (List DV):=paStr
def Fn63_0 (v:Tf63_0)(α:Type)(k:List RV->Option α):ByteArray->Option α:=FnAtoi 362 v α k
theorem io63_0:InstOk Tryz.prog 63 nt63 ⟨pa63_0,Fn63_0 f63_0⟩:=
 inst_atoi (t:=362) (tn:=423) (tb:=5) (g1:=1) (g2:=2) ⟨Tryz.f63,Tryz.func63,by kernel_rfl,by kernel_rfl⟩ (by kernel_rfl) (by kernel_rfl)
  (fun s hs v h w=>Tryz.strconv_Atoi_ok s hs v h w) (fun s hs h ev w hv he=>Tryz.strconv_Atoi_syntax s hs h ev w hv he) (fun s hs h ev w hv he=>Tryz.strconv_Atoi_range s hs h ev w hv he)
abbrev nt62:Nat:=8
abbrev Tf62_0:Type 1:=TSplit
def f62_0:Tf62_0:=fSplit
def pa62_0:PT (List DV):=paStr2
def Fn62_0 (v:Tf62_0)(α:Type)(k:List RV->Option α):ByteArray->ByteArray->Option α:=FnSplit v α k
theorem io62_0:InstOk Tryz.prog 62 nt62 ⟨pa62_0,Fn62_0 f62_0⟩:=
 inst_split (g:=4) (t9:=9) ⟨Tryz.f62,Tryz.func62,by kernel_rfl,by kernel_rfl⟩ (by kernel_rfl) fun s p m w hs hm h1=>Tryz.strings_Split s p m w hs hm h1
abbrev nt64:Nat:=8
abbrev Tf64_0:Type 1:=TTrim
def f64_0:Tf64_0:=fTrim
def pa64_0:PT (List DV):=paStr2
def Fn64_0 (v:Tf64_0)(α:Type)(k:List RV->Option α):ByteArray->ByteArray->Option α:=FnTrim v α k
theorem io64_0:InstOk Tryz.prog 64 nt64 ⟨pa64_0,Fn64_0 f64_0⟩:=
 inst_trim ⟨Tryz.f64,Tryz.func64,by kernel_rfl,by kernel_rfl⟩ fun s p w=>Tryz.strings_TrimPrefix s p w
abbrev nt78:Nat:=75
abbrev Tf78_0:Type 1:=TJoin
def f78_0:Tf78_0:=fJoin
def pa78_0:PT (List DV):=paJoin
def Fn78_0 (v:Tf78_0)(α:Type)(k:List RV->Option α):Rows->ByteArray->Option α:=FnJoin v α k
theorem io78_0:InstOk Tryz.prog 78 nt78 ⟨pa78_0,Fn78_0 f78_0⟩:=
 inst_join ⟨Tryz.f78,Tryz.func78,by kernel_rfl,by kernel_rfl⟩ (fun a c s w=>Tryz.strings_Join_none a c s w) fun bk o c xs s w h1 h2 h3 h4 h5=>Tryz.strings_Join bk o c xs s w h1 h2 h3 h4 h5
abbrev nt173:Nat:=9
abbrev Tf173_0:Type 1:=THas
def f173_0:Tf173_0:=fHas
def pa173_0:PT (List DV):=paStr2
def Fn173_0 (v:Tf173_0)(α:Type)(k:List RV->Option α):ByteArray->ByteArray->Option α:=FnHas v α k
theorem io173_0:InstOk Tryz.prog 173 nt173 ⟨pa173_0,Fn173_0 f173_0⟩:=
 inst_has ⟨Tryz.f173,Tryz.func173,by kernel_rfl,by kernel_rfl⟩ fun s c w=>Tryz.strings_Contains_one s c w
end Go.AM.K
