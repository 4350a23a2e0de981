/- Printed by KGen. -/
import Derived.Test.YtnhkllkecbmchaaGreatDoorXA1
import Derived.Test.YtnhkllkecbmchaaGreatDoorTPi
import Derived.Test.YtnhkllkecbmchaaGreatDoorXAx
namespace Go.AM.K
open Go.Proofs
set_option maxRecDepth 100000
set_option linter.unusedVariables false
noncomputable section
abbrev nt4:Nat:=190
def sh4:SG:=[(63,[.str,.int .i64,.int .i64,.int .i64,.int .i64,.int .i64,.int .i64,.int .i64,.int .i64,.int .i64]),(65,[.str]),(70,[.str,.int .i64,.int .i64,.int .i64,.int .i64,.int .i64,.int .i64,.int .i64,.int .i64,.int .i64]),(71,[.str,.int .i64,.int .i64,.int .i64,.int .i64,.int .i64,.int .i64,.int .i64,.int .i64,.int .i64]),(76,[.str,.int .i64,.int .i64,.int .i64,.int .i64,.int .i64,.int .i64,.int .i64,.int .i64,.int .i64]),(77,[.str,.int .i64,.int .i64,.int .i64,.int .i64,.int .i64,.int .i64,.int .i64,.int .i64,.int .i64]),(82,[.str,.int .i64,.int .i64,.int .i64,.int .i64,.int .i64,.int .i64,.int .i64,.int .i64,.int .i64]),(83,[.str,.int .i64,.int .i64,.int .i64,.int .i64,.int .i64,.int .i64,.int .i64,.int .i64,.int .i64]),(94,[.str,.int .i64,.int .i64,.int .i64,.int .i64,.int .i64,.int .i64,.int .i64,.int .i64,.int .i64]),(97,[.str,.int .i64,.int .i64,.int .i64,.int .i64,.int .i64,.int .i64,.int .i64,.int .i64,.int .i64]),(98,[.str,.int .i64,.int .i64,.int .i64,.int .i64,.int .i64,.int .i64,.int .i64,.int .i64,.int .i64]),(115,[.str,.int .i64,.int .i64,.int .i64,.int .i64,.int .i64,.int .i64,.int .i64,.int .i64,.int .i64]),(116,[.str,.int .i64,.int .i64,.int .i64,.int .i64,.int .i64,.int .i64,.int .i64,.int .i64,.int .i64])]
def r4_2:LA:=[oO 4 (.mv (.const (.bool false)))]
def r4_5:LA:=[oO 25 (.call 15 []),oO 26 (.pure (oB (.unOp .not 4 (.tmp 25)) 4))]
def r4_8:LA:=[oO 4 (.mv (.const (.bool false)))]
def r4_11:LA:=[oM 27 0,oO 28 (.len (.tmp 27)),bK 29 .gtr 28 6,oM 30 29,oG 31 (.mv (.tmp 0)) 30 true,oG 32 (.len (.tmp 31)) 30 true,oG 33 (.bin .leq 3 (.tmp 32) (kI 20)) 30 true,oO 34 (.pick (.tmp 30) (.tmp 33) (.const (.bool false))),oM 35 34,oG 36 (.mv (.tmp 0)) 35 false,oG 37 (.len (.tmp 36)) 35 false,oG 38 (.bin .gtr 3 (.tmp 37) (kI 22)) 35 false,oO 39 (.pick (.tmp 35) (.const (.bool true)) (.tmp 38)),oM 40 39,oG 41 (.mv (.tmp 1)) 40 false,oG 42 (.pure (oB (ln9 41) 3)) 40 false,oG 43 (.bin .gtr 3 (.tmp 42) (kI 600)) 40 false,oG 44 (.mv (.tmp 43)) 40 false,oG 45 (.mv (.tmp 1)) 44 true,oG 46 (.pure (oB (ln9 45) 3)) 44 true,oG 47 (.bin .leq 3 (.tmp 46) (kI 60000)) 44 true,oG 48 (.pick (.tmp 44) (.tmp 47) (.const (.bool false))) 40 false,oO 49 (.pick (.tmp 40) (.const (.bool true)) (.tmp 48)),oM 50 49,oG 51 (.mv (.tmp 1)) 50 false,oG 52 (.pure (oB (ln9 51) 3)) 50 false,oG 53 (.bin .gtr 3 (.tmp 52) (kI 60050)) 50 false,oO 54 (.pick (.tmp 50) (.const (.bool true)) (.tmp 53))]
def r4_14:LA:=[oO 4 (.mv (.const (.bool true)))]
def r4_17:LA:=[mK 5 0]
def td4_19:OT:=(tO [0,1,5])
def r4_22:LA:=[oM 55 5,oM 56 0,oO 57 (.len (.tmp 56)),bT 58 .lss 55 57]
def r4_28:LA:=[oM 61 0,oM 62 5,oO 63 (.iaddr 10 none (.tmp 61) (.tmp 62)),fA 64 0 63,lD 65 64,oO 66 (.pure (oB (ln9 65) 3)),bK 67 .gtr 66 30]
def r4_31:LA:=[oO 4 (.mv (.const (.bool true)))]
def r4_33:LA:=[oM 68 0,oM 69 5,oO 70 (.iaddr 10 none (.tmp 68) (.tmp 69)),lA 71 10 70,oO 72 (.call 16 [.tmp 71]),oM 6 72]
def r4_36:LA:=[oM 73 6,oM 74 0,oM 75 5,oO 76 (.iaddr 10 none (.tmp 74) (.tmp 75)),lA 77 10 76,oO 78 (.call 17 [.tmp 77]),oO 79 (.bin .neq 9 (.tmp 73) (.tmp 78))]
def r4_39:LA:=[oO 4 (.mv (.const (.bool false)))]
def r4_41:LA:=[oM 80 0,oM 81 5,oO 82 (.iaddr 10 none (.tmp 80) (.tmp 81)),lA 83 10 82,oO 84 (.call 18 [.tmp 83]),bK 85 .eql 84 0]
def r4_44:LA:=[oM 87 6,oO 88 (.call 19 [.tmp 87]),oM 86 88,oO 89 (.extract 0 (.tmp 86)),oO 90 (.extract 1 (.tmp 86)),⟨(some 7),(.alloc [(.d (.v (.string ⟨#[]⟩))),(cI 0),(cI 0),(cI 0),(cI 0),(cI 0),(cI 0),(cI 0),(cI 0),(cI 0)]),none⟩,sD 10 7 89,oM 8 90]
def r4_46:LA:=[oM 91 8,oO 92 (.bin .neq 28 (.tmp 91) (kI 0)),oM 93 92,oG 94 (.load true 10 (.tmp 7)) 93 false,oG 95 (.mv (.tmp 0)) 93 false,oG 96 (.mv (.tmp 5)) 93 false,oG 97 (.iaddr 10 none (.tmp 95) (.tmp 96)) 93 false,oG 98 (.load true 10 (.tmp 97)) 93 false,oG 99 (.bin .neq 39 (.tmp 94) (.tmp 98)) 93 false,oO 100 (.pick (.tmp 93) (.const (.bool true)) (.tmp 99))]
def r4_49:LA:=[oO 4 (.mv (.const (.bool false)))]
def r4_50:LA:=[oM 59 5,bK 60 .add 59 1,oM 5 60]
def r4_52:LA:=[oM 102 1,oO 103 (.call 19 [.tmp 102]),oM 101 103,oO 104 (.extract 0 (.tmp 101)),oO 105 (.extract 1 (.tmp 101)),⟨(some 9),(.alloc [(.d (.v (.string ⟨#[]⟩))),(cI 0),(cI 0),(cI 0),(cI 0),(cI 0),(cI 0),(cI 0),(cI 0),(cI 0)]),none⟩,sD 10 9 104,oM 10 105]
def r4_54:LA:=[oM 107 1,oO 108 (.call 20 [.tmp 107]),oM 106 108,oO 109 (.extract 0 (.tmp 106)),oO 110 (.extract 1 (.tmp 106)),⟨(some 11),(.alloc [(.d (.v (.string ⟨#[]⟩))),(cI 0),(cI 0),(cI 0),(cI 0),(cI 0),(cI 0),(cI 0),(cI 0),(cI 0)]),none⟩,sD 10 11 109,oM 12 110]
def r4_57:LA:=[oM 111 10,oM 112 12,bT 113 .neq 111 112,oM 114 113,oG 115 (.load true 10 (.tmp 9)) 114 false,oG 116 (.load true 10 (.tmp 11)) 114 false,oG 117 (.bin .neq 39 (.tmp 115) (.tmp 116)) 114 false,oO 118 (.pick (.tmp 114) (.const (.bool true)) (.tmp 117))]
def r4_60:LA:=[oO 4 (.mv (.const (.bool false)))]
def r4_62:LA:=[⟨(some 120),(.bslice 10 0 [(.v (.string ⟨#[]⟩)),(.v (.int .i64 0)),(.v (.int .i64 0)),(.v (.int .i64 0)),(.v (.int .i64 0)),(.v (.int .i64 0)),(.v (.int .i64 0)),(.v (.int .i64 0)),(.v (.int .i64 0)),(.v (.int .i64 0))] []),none⟩,oM 121 0,oO 122 (.append 10 88 (.tmp 120) (.tmp 121)),oO 123 (.call 21 [.tmp 122]),oM 119 123,oO 124 (.extract 0 (.tmp 119)),oO 125 (.extract 1 (.tmp 119)),oM 13 124,oM 14 125]
def r4_65:LA:=[oM 126 0,oO 127 (.call 22 [.tmp 126]),oM 15 127]
def r4_67:LA:=[oM 128 15,bK 129 .neq 128 0]
def r4_70:LA:=[oM 130 14,oM 131 15,bT 132 .neq 130 131,oM 133 132,oG 134 (.mv (.tmp 13)) 133 false,⟨(some 135),(.bin .neq 9 (.tmp 134) (.const (.string ⟨#[]⟩))),(some (133,false))⟩,oO 136 (.pick (.tmp 133) (.const (.bool true)) (.tmp 135))]
def r4_73:LA:=[oO 4 (.mv (.const (.bool false)))]
def r4_75:LA:=[oM 138 13,oO 139 (.call 23 [.tmp 138]),oM 137 139,oO 140 (.extract 0 (.tmp 137)),oO 141 (.extract 1 (.tmp 137)),oO 142 (.extract 2 (.tmp 137)),oM 16 140,oM 17 141,oM 18 142]
def r4_77:LA:=[oM 143 14,oO 144 (.bin .neq 28 (.tmp 143) (kI 0)),oM 145 144,oG 146 (.mv (.tmp 13)) 145 false,oG 147 (.mv (.tmp 0)) 145 false,oG 148 (.call 24 [.tmp 147]) 145 false,oG 149 (.bin .neq 9 (.tmp 146) (.tmp 148)) 145 false,oO 150 (.pick (.tmp 145) (.const (.bool true)) (.tmp 149)),oM 151 150,oG 152 (.mv (.tmp 18)) 151 false,oG 153 (.bin .neq 28 (.tmp 152) (kI 0)) 151 false,oO 154 (.pick (.tmp 151) (.const (.bool true)) (.tmp 153)),oM 155 154,oG 156 (.mv (.tmp 17)) 155 false,oG 157 (.bin .neq 3 (.tmp 156) (kI 0)) 155 false,oO 158 (.pick (.tmp 155) (.const (.bool true)) (.tmp 157)),oM 159 158,oG 160 (.mv (.tmp 16)) 159 false,oG 161 (.mv (.tmp 0)) 159 false,oG 162 (.call 25 [(.tmp 160),(.tmp 161)]) 159 false,oG 163 (.pure (oB (.unOp .not 4 (.tmp 162)) 4)) 159 false,oO 164 (.pick (.tmp 159) (.const (.bool true)) (.tmp 163))]
def r4_80:LA:=[oO 4 (.mv (.const (.bool false)))]
def r4_82:LA:=[oM 166 1,oO 167 (.call 23 [.tmp 166]),oM 165 167,oO 168 (.extract 0 (.tmp 165)),oO 169 (.extract 1 (.tmp 165)),oO 170 (.extract 2 (.tmp 165)),oM 19 168,oM 20 169,oM 21 170]
def r4_84:LA:=[oM 172 1,oO 173 (.call 26 [.tmp 172]),oM 171 173,oO 174 (.extract 0 (.tmp 171)),oO 175 (.extract 1 (.tmp 171)),oO 176 (.extract 2 (.tmp 171)),oM 22 174,oM 23 175,oM 24 176]
def r4_86:LA:=[oM 177 21,oM 178 24,bT 179 .eql 177 178,oM 180 179,oG 181 (.mv (.tmp 20)) 180 true,oG 182 (.mv (.tmp 23)) 180 true,oG 183 (.bin .eql 3 (.tmp 181) (.tmp 182)) 180 true,oO 184 (.pick (.tmp 180) (.tmp 183) (.const (.bool false))),oM 185 184,oG 186 (.mv (.tmp 19)) 185 true,oG 187 (.mv (.tmp 22)) 185 true,oG 188 (.call 25 [(.tmp 186),(.tmp 187)]) 185 true,oO 189 (.pick (.tmp 185) (.tmp 188) (.const (.bool false))),oM 4 189]
def tr4:TG:=[tT 0 [0,1],tT 1 [0,1,26],tT 2 [4],tT 3 [0,1,54],tT 4 [4],tT 5 [0,1,5],tT 6 [0,1,5,58],tT 8 [0,1,5,67],tT 9 [4],tT 10 [0,1,5,6],tT 11 [0,1,5,6,79],tT 12 [4],tT 13 [0,1,5,6,85],tT 14 [0,1,5,7,8],tT 15 [0,1,5,100],tT 16 [4],tT 7 [0,1,5],tT 17 [0,1,9,10],tT 18 [0,1,9,10,11,12],tT 19 [0,1,118],tT 20 [4],tT 21 [0,1,13,14],tT 22 [0,1,13,14,15],tT 23 [0,1,13,14,15,129],tT 24 [1,136],tT 25 [4],tT 26 [0,1,13,14,16,17,18],tT 27 [1,164],tT 28 [4],tT 29 [1,19,20,21],tT 30 [19,20,21,22,23,24],tT 31 [4]]
def tl4:TG:=[tT 6 [0,1,5]]
def rs4:List AResV:=[.tmp 4]
def p4_0_0:PT St:=pS [sY 0 dL,sY 1 dS,sY 26 dB] []
def u4_0_0 {β:Type}(g:St->β):Rows->BA->Bool->β:=p4_0_0.unc g
def p4_0_1:PT St:=pS [sY 0 dL,sY 1 dS,sY 54 dB] []
def u4_0_1 {β:Type}(g:St->β):Rows->BA->Bool->β:=p4_0_1.unc g
def p4_0_2:PT St:=pS [sY 0 dL,sY 1 dS,sI 5] []
def u4_0_2 {β:Type}(g:St->β):Rows->BA->Int->β:=p4_0_2.unc g
def p4_0_3:PT St:=pS [sY 4 dB] []
def u4_0_3 {β:Type}(g:St->β):Bool->β:=p4_0_3.unc g
def p4_0_4:PT St:=pS [sY 0 dL,sY 1 dS,sI 5,sY 58 dB] []
def u4_0_4 {β:Type}(g:St->β):Rows->BA->Int->Bool->β:=p4_0_4.unc g
def p4_0_5:PT St:=pS [sY 0 dL,sY 1 dS,sY 13 dS,sI 14,sl 16 (aV false [(cRef 139)]),sI 17,sI 18] [eOwn 139 10]
def u4_0_5 {β:Type}(g:St->β):Rows->BA->BA->Int->Int->Int->Rows->β:=p4_0_5.unc g
def p4_0_6:PT St:=pS [sY 1 dS,sY 164 dB] []
def u4_0_6 {β:Type}(g:St->β):BA->Bool->β:=p4_0_6.unc g
def p4_0_7:PT St:=pS [sY 0 dL,sY 1 dS,sY 13 dS,sI 14] []
def u4_0_7 {β:Type}(g:St->β):Rows->BA->BA->Int->β:=p4_0_7.unc g
def p4_0_8:PT St:=pS [sY 1 dS,sY 136 dB] []
def u4_0_8 {β:Type}(g:St->β):BA->Bool->β:=p4_0_8.unc g
def pr4_0_0:PT (List RV):=pRs [pR false [rD dB]]
def ur4_0_0 {β:Type}(g:List RV->β):Bool->β:=pr4_0_0.unc g
def E4_0g (a:Tf15_0)(b:Tf16_0)(c:Tf17_0)(d:Tf18_0)(e:Tf19_0)(g:Tf20_0)(h:Tf21_0)(i:Tf22_0)(j:Tf23_0)(l:Tf24_0)(m:Tf25_0)(o:Tf26_0):EnvK:=EnvK.of [⟨15,nt15,[⟨pa15_0,Fn15_0 a⟩]⟩,⟨16,nt16,[⟨pa16_0,Fn16_0 b⟩]⟩,⟨17,nt17,[⟨pa17_0,Fn17_0 c⟩]⟩,⟨18,nt18,[⟨pa18_0,Fn18_0 d⟩]⟩,⟨19,nt19,[⟨pa19_0,Fn19_0 e⟩]⟩,⟨20,nt20,[⟨pa20_0,Fn20_0 g⟩]⟩,⟨21,nt21,[⟨pa21_0,Fn21_0 h⟩]⟩,⟨22,nt22,[⟨pa22_0,Fn22_0 i⟩]⟩,⟨23,nt23,[⟨pa23_0,Fn23_0 j⟩]⟩,⟨24,nt24,[⟨pa24_0,Fn24_0 l⟩]⟩,⟨25,nt25,[⟨pa25_0,Fn25_0 m⟩]⟩,⟨26,nt26,[⟨pa26_0,Fn26_0 o⟩]⟩] noSeq
def E4_0:EnvK:=E4_0g f15_0 f16_0 f17_0 f18_0 f19_0 f20_0 f21_0 f22_0 f23_0 f24_0 f25_0 f26_0
theorem eo4_0:E4_0.Ok Pg:=EnvK.of_ok noSeq_ok ⟨⟨io15_0,TT⟩,⟨io16_0,TT⟩,⟨io17_0,TT⟩,⟨io18_0,TT⟩,⟨io19_0,TT⟩,⟨io20_0,TT⟩,⟨io21_0,TT⟩,⟨io22_0,TT⟩,⟨io23_0,TT⟩,⟨io24_0,TT⟩,⟨io25_0,TT⟩,⟨io26_0,TT⟩,TT⟩
def c4_0_76g:MCode:=(.region r4_77 [] (tO [1,164]))
def c4_0_76:MCode:=c4_0_76g
theorem g4_0_76:c4_0_76.Good Pg E4_0 sh4:=TT
abbrev TJ4_0_2:Type 1:=(α:Type)->Rows->BA->Int->Int->Int->Rows->(Bool->Op α)->Op α
def J4_0_2g (b:Tf24_0)(c:Tf25_0)(α:Type)(a:Rows)(d:BA)(e g h:Int)(i:Rows)(k1:Bool->Op α):Op α:=
 cK (e != 0)
 (k1 true)
 (b α a
 (fun j=>cK (!(d.toList == j.toList))
 (k1 true)
 (cK (h != 0)
 (k1 true)
 (cK (g != 0)
 (k1 true)
 (c α i a
 (fun l=>k1 (!l)))))))
def J4_0_2 (α:Type)(a:Rows)(b:BA)(c d e:Int)(g:Rows)(k1:Bool->Op α):Op α:=J4_0_2g f24_0 f25_0 α a b c d e g k1
def F4_0_2 (v:TJ4_0_2)(α:Type)(K:KT α):Rows->BA->BA->Int->Int->Int->Rows->Op α:=fun a b c d e g h=>v α a c d e g h (fun i=>u4_0_6 (K .normal) b i)
theorem m4_0_2g (c:Tf15_0)(d:Tf16_0)(e:Tf17_0)(g:Tf18_0)(h:Tf19_0)(i:Tf20_0)(j:Tf21_0)(l:Tf22_0)(m:Tf23_0)(a:Tf24_0)(b:Tf25_0)(o:Tf26_0)(α:Type)(K:KT α):F4_0_2 (J4_0_2g a b) α K=p4_0_5.unc fun σ=>runM Pg (E4_0g c d e g h i j l m a b o) sh4 (c4_0_76g ) K σ:=by kernel_rfl
theorem m4_0_2:∀ (α:Type) (K:KT α),F4_0_2 J4_0_2 α K=p4_0_5.unc fun σ=>runM Pg E4_0 sh4 c4_0_76 K σ:=m4_0_2g f15_0 f16_0 f17_0 f18_0 f19_0 f20_0 f21_0 f22_0 f23_0 f24_0 f25_0 f26_0
def c4_0_63g (a:TJ4_0_2):MCode:=(.seq (.region r4_65 [] (tO [0,1,13,14,15])) (.seq (.region r4_67 [] (tO [0,1,13,14,15,129])) (.cond (.tmp 129) (.seq (.region r4_70 [] (tO [1,136])) (.cond (.tmp 136) (.seq (.region r4_73 [] (tO [4])) .ret) .skip)) (.seq (.region r4_75 [] (tO [0,1,13,14,16,17,18])) (.seq (.mark [⟨p4_0_5,F4_0_2 a⟩] c4_0_76) (.cond (.tmp 164) (.seq (.region r4_80 [] (tO [4])) .ret) .skip))))))
def c4_0_63:MCode:=c4_0_63g J4_0_2
theorem g4_0_63:c4_0_63.Good Pg E4_0 sh4:=⟨TT,TT,⟨TT,⟨TT,TT⟩,TT⟩,TT,⟨g4_0_76,m4_0_2,TT⟩,⟨TT,TT⟩,TT⟩
abbrev TJ4_0_3:Type 1:=(α:Type)->Rows->BA->Int->(Op α)->(Bool->Op α)->(Bool->Op α)->Op α
def J4_0_3g (g:TJ4_0_2)(h:Tf22_0)(i:Tf23_0)(α:Type)(b:Rows)(a:BA)(c:Int)(k1:Op α)(k2:Bool->Op α)(k3:Bool->Op α):Op α:=
 h α b
 (fun d=>cK (d != 0)
 (cK (c != d)
 (k1)
 (cK (!(a.toList == (⟨#[]⟩:BA).toList))
 (k1)
 (k2 (!(a.toList == (⟨#[]⟩:BA).toList)))))
 (i α a
 (fun j l m=>g α b a c l m j
 (fun e=>cK e
 (k1)
 (k3 e)))))
def J4_0_3 (α:Type)(a:Rows)(b:BA)(c:Int)(k1:Op α)(k2:Bool->Op α)(k3:Bool->Op α):Op α:=J4_0_3g J4_0_2 f22_0 f23_0 α a b c k1 k2 k3
def F4_0_3 (v:TJ4_0_3)(α:Type)(K:KT α):Rows->BA->BA->Int->Op α:=fun c b d e=>v α c d e (u4_0_3 (K .ret) false) (fun a=>u4_0_8 (K .normal) b a) (fun a=>u4_0_6 (K .normal) b a)
theorem m4_0_3g (d:Tf15_0)(e:Tf16_0)(g:Tf17_0)(h:Tf18_0)(i:Tf19_0)(j:Tf20_0)(l:Tf21_0)(a:Tf22_0)(b:Tf23_0)(m:Tf24_0)(o:Tf25_0)(p:Tf26_0)(c:TJ4_0_2)(α:Type)(K:KT α):F4_0_3 (J4_0_3g c a b) α K=p4_0_7.unc fun σ=>runM Pg (E4_0g d e g h i j l a b m o p) sh4 (c4_0_63g c) K σ:=by kernel_rfl
theorem m4_0_3:∀ (α:Type) (K:KT α),F4_0_3 J4_0_3 α K=p4_0_7.unc fun σ=>runM Pg E4_0 sh4 c4_0_63 K σ:=m4_0_3g f15_0 f16_0 f17_0 f18_0 f19_0 f20_0 f21_0 f22_0 f23_0 f24_0 f25_0 f26_0 J4_0_2
def c4_0_19g:MCode:=(.seq (.seq (.region r4_22 [] (tO [0,1,5,58])) (.cond (.tmp 58) .skip (.exit 0))) (.seq (.block 1 (.seq (.seq (.region r4_28 [] (tO [0,1,5,67])) (.cond (.tmp 67) (.seq (.region r4_31 [] (tO [4])) .ret) .skip)) (.seq (.region r4_33 [] (tO [0,1,5,6])) (.seq (.seq (.region r4_36 [] (tO [0,1,5,6,79])) (.cond (.tmp 79) (.seq (.region r4_39 [] (tO [4])) .ret) .skip)) (.seq (.region r4_41 [] (tO [0,1,5,6,85])) (.cond (.tmp 85) (.seq (.region r4_44 [] (tO [0,1,5,7,8])) (.seq (.region r4_46 [] (tO [0,1,5,100])) (.cond (.tmp 100) (.seq (.region r4_49 [] (tO [4])) .ret) .skip))) .skip)))))) (.region r4_50 [] (tO [0,1,5]))))
def c4_0_19:MCode:=c4_0_19g
theorem g4_0_19:c4_0_19.Good Pg E4_0 sh4:=⟨⟨TT,TT,TT⟩,⟨⟨TT,⟨TT,TT⟩,TT⟩,TT,⟨TT,⟨TT,TT⟩,TT⟩,TT,⟨TT,TT,⟨TT,TT⟩,TT⟩,TT⟩,TT⟩
def S4_0_1g (d:Tf16_0)(e:Tf17_0)(g:Tf18_0)(h:Tf19_0)(α:Type)(b:Rows)(a:Int)(kn:Int->Op α)(k1:Bool->Op α)(k2:Int->Bool->Op α):Op α:=
 cK (decide (a < ((List.length b:Nat):Int)))
 (rowK b a [.str,.int .i64,.int .i64,.int .i64,.int .i64,.int .i64,.int .i64,.int .i64,.int .i64,.int .i64]
 (fun i b9 c0 c1 c2 c3 c4 c5 c6 c7=>cK (decide (30 < ((ByteArray.size i:Nat):Int)))
 (k1 true)
 (rowK b a [.str,.int .i64,.int .i64,.int .i64,.int .i64,.int .i64,.int .i64,.int .i64,.int .i64,.int .i64]
 (fun j l m o p q r s t w=>d α j l m o p q r s t w
 (fun c=>rowK b a [.str,.int .i64,.int .i64,.int .i64,.int .i64,.int .i64,.int .i64,.int .i64,.int .i64,.int .i64]
 (fun z A B C D F G H I J=>e α z A B C D F G H I J
 (fun L=>cK (!(c.toList == L.toList))
 (k1 false)
 (rowK b a [.str,.int .i64,.int .i64,.int .i64,.int .i64,.int .i64,.int .i64,.int .i64,.int .i64,.int .i64]
 (fun M N O P Q R T U V W=>g α M N O P Q R T U V W
 (fun X=>cK (X == 0)
 (h α c
 (fun Y Z a0 a1 a2 a3 a4 a5 a6 a7 a8=>cK (a8 != 0)
 (k1 false)
 (rowK b a [.str,.int .i64,.int .i64,.int .i64,.int .i64,.int .i64,.int .i64,.int .i64,.int .i64,.int .i64]
 (fun a9 b0 b1 b2 b3 b4 b5 b6 b7 b8=>cK (!((Y == a9) && ((Z == b0) && (((a0 == b1) && ((a1 == b2) && true)) && (((a2 == b3) && ((a3 == b4) && true)) && (((a4 == b5) && ((a5 == b6) && true)) && (((a6 == b7) && ((a7 == b8) && true)) && true)))))))
 (k1 false)
 (kn (w64 (a+1)))))))
 (kn (w64 (a+1)))))))))))))
 (k2 a (decide (a < ((List.length b:Nat):Int))))
def S4_0_1 (α:Type)(a:Rows)(b:Int)(kn:Int->Op α)(k1:Bool->Op α)(k2:Int->Bool->Op α):Op α:=S4_0_1g f16_0 f17_0 f18_0 f19_0 α a b kn k1 k2
def R4_0_1 (α:Type)(a:Rows)(k1:Bool->Op α)(k2:Int->Bool->Op α):Nat->Int->Op α
 | 0,_=>none
 | n+1,b=>S4_0_1 α a b (R4_0_1 α a k1 k2 n) k1 k2
def L4_0_1 (α:Type)(a:Rows)(k1:Bool->Op α)(k2:Int->Bool->Op α)(b:Int):Op α:=R4_0_1 α a k1 k2 fuel b
abbrev TL4_0_1:Type 1:=(α:Type)->Rows->(Bool->Op α)->(Int->Bool->Op α)->Int->Op α
def F4_0_1 (v:TL4_0_1)(α:Type)(K:KT α):Rows->BA->Int->Op α:=fun b c d=>v α b (fun a=>u4_0_3 (K .ret) a) (fun a e=>u4_0_4 (K (.exit 0)) b c a e) d
theorem r4_0_1g (j:Tf15_0)(e:Tf16_0)(g:Tf17_0)(h:Tf18_0)(i:Tf19_0)(l:Tf20_0)(m:Tf21_0)(o:Tf22_0)(p:Tf23_0)(q:Tf24_0)(r:Tf25_0)(s:Tf26_0)(α:Type)(K:KT α)(Kn:SK α)(a:Rows)(c:BA)(b:Int):u4_0_2 (fun σ=>runM Pg (E4_0g j e g h i l m o p q r s) sh4 (c4_0_19g ) (thenK (fun σ=>tidyK td4_19 σ Kn) K) σ) a c b=S4_0_1g e g h i α a b (fun b=>u4_0_2 Kn a c b) (fun d=>u4_0_3 (K .ret) d) (fun d t=>u4_0_4 (K (.exit 0)) a c d t):=by kernel_rfl
theorem r4_0_1 (α:Type)(K:KT α)(Kn:SK α)(a:Rows)(c:BA)(b:Int):u4_0_2 (fun σ=>runM Pg E4_0 sh4 c4_0_19 (thenK (fun σ=>tidyK td4_19 σ Kn) K) σ) a c b=S4_0_1 α a b (fun b=>u4_0_2 Kn a c b) (fun d=>u4_0_3 (K .ret) d) (fun d e=>u4_0_4 (K (.exit 0)) a c d e):=r4_0_1g f15_0 f16_0 f17_0 f18_0 f19_0 f20_0 f21_0 f22_0 f23_0 f24_0 f25_0 f26_0 α K Kn a c b
theorem t4_0_1 (α:Type)(K:KT α):∀ (n:Nat) (a:Rows) (d:BA) (b:Int),R4_0_1 α a (fun c=>u4_0_3 (K .ret) c) (fun c e=>u4_0_4 (K (.exit 0)) a d c e) n b=u4_0_2 (loopT (runM Pg E4_0 sh4 c4_0_19) td4_19 K n) a d b:=by
 intro n
 induction n with
 | zero=>intros;rfl
 | succ n ih=>intro a d b;exact (congrArg (fun kn=>S4_0_1 α a b kn (fun c=>u4_0_3 (K .ret) c) (fun c e=>u4_0_4 (K (.exit 0)) a d c e)) (funext fun b=>ih a d b)).trans (r4_0_1 α K (loopT (runM Pg E4_0 sh4 c4_0_19) td4_19 K n) a d b).symm
theorem m4_0_1:∀ (α:Type) (K:KT α),F4_0_1 L4_0_1 α K=p4_0_2.unc fun σ=>loopT (runM Pg E4_0 sh4 c4_0_19) td4_19 K fuel σ:=fun α K=>by funext a b c;exact t4_0_1 α K fuel a b c
def c4_0_10g:MCode:=(.region r4_11 [] (tO [0,1,54]))
def c4_0_10:MCode:=c4_0_10g
theorem g4_0_10:c4_0_10.Good Pg E4_0 sh4:=TT
abbrev TJ4_0_0:Type 1:=(α:Type)->Rows->BA->(Bool->Op α)->Op α
def J4_0_0g (α:Type)(b:Rows)(a:BA)(k1:Bool->Op α):Op α:=
 cK (decide (6 < ((List.length b:Nat):Int)))
 (cK (decide (((List.length b:Nat):Int)<=20))
 (k1 true)
 (cK (decide (22 < ((List.length b:Nat):Int)))
 (k1 true)
 (cK (decide (600 < ((ByteArray.size a:Nat):Int)))
 (cK (decide (((ByteArray.size a:Nat):Int)<=60000))
 (k1 true)
 (k1 (decide (60050 < ((ByteArray.size a:Nat):Int)))))
 (k1 (decide (60050 < ((ByteArray.size a:Nat):Int)))))))
 (cK (decide (22 < ((List.length b:Nat):Int)))
 (k1 true)
 (cK (decide (600 < ((ByteArray.size a:Nat):Int)))
 (cK (decide (((ByteArray.size a:Nat):Int)<=60000))
 (k1 true)
 (k1 (decide (60050 < ((ByteArray.size a:Nat):Int)))))
 (k1 (decide (60050 < ((ByteArray.size a:Nat):Int))))))
def J4_0_0 (α:Type)(a:Rows)(b:BA)(k1:Bool->Op α):Op α:=J4_0_0g α a b k1
def F4_0_0 (v:TJ4_0_0)(α:Type)(K:KT α):Rows->BA->Bool->Op α:=fun a b d=>v α a b (fun c=>u4_0_1 (K .normal) a b c)
theorem m4_0_0g (a:Tf15_0)(b:Tf16_0)(c:Tf17_0)(d:Tf18_0)(e:Tf19_0)(g:Tf20_0)(h:Tf21_0)(i:Tf22_0)(j:Tf23_0)(l:Tf24_0)(m:Tf25_0)(o:Tf26_0)(α:Type)(K:KT α):F4_0_0 (J4_0_0g ) α K=p4_0_0.unc fun σ=>runM Pg (E4_0g a b c d e g h i j l m o) sh4 (c4_0_10g ) K σ:=by kernel_rfl
theorem m4_0_0:∀ (α:Type) (K:KT α),F4_0_0 J4_0_0 α K=p4_0_0.unc fun σ=>runM Pg E4_0 sh4 c4_0_10 K σ:=m4_0_0g f15_0 f16_0 f17_0 f18_0 f19_0 f20_0 f21_0 f22_0 f23_0 f24_0 f25_0 f26_0
abbrev Tf4_0:Type 1:=(α:Type)->Rows->BA->(Bool->Op α)->Op α
def f4_0g (g:TJ4_0_0)(h:TJ4_0_3)(i:TL4_0_1)(j:Tf15_0)(l:Tf19_0)(m:Tf20_0)(o:Tf21_0)(c:Tf23_0)(d:Tf25_0)(e:Tf26_0)(α:Type)(b:Rows)(a:BA)(k1:Bool->Op α):Op α:=
 j α
 (g α b a
 (fun p=>cK p
 (k1 true)
 (i α b
 (fun q=>k1 q)
 (fun b0 b1=>l α a
 (fun r s t w z A B C D F G=>m α a
 (fun H I J L M N O P Q R T=>cK (G != T)
 (k1 false)
 (cK (!((r == H) && ((s == I) && (((t == J) && ((w == L) && true)) && (((z == M) && ((A == N) && true)) && (((B == O) && ((C == P) && true)) && (((D == Q) && ((F == R) && true)) && true)))))))
 (k1 false)
 (gK (apOk 10 88 ([]:Rows) b) (o α (([]:Rows)++b)
 (fun U V=>h α b U V
 (k1 false)
 (fun b2=>c α a
 (fun W X Y=>e α a
 (fun Z a0 a1=>cK (Y == a1)
 (cK (X == a0)
 (d α W Z
 (fun a2=>k1 a2))
 (k1 false))
 (k1 false))))
 (fun b3=>c α a
 (fun a3 a4 a5=>e α a
 (fun a6 a7 a8=>cK (a5 == a8)
 (cK (a4 == a7)
 (d α a3 a6
 (fun a9=>k1 a9))
 (k1 false))
 (k1 false))))))))))) 0)))
def f4_0 (α:Type)(a:Rows)(b:BA)(k1:Bool->Op α):Op α:=f4_0g J4_0_0 J4_0_3 L4_0_1 f15_0 f19_0 f20_0 f21_0 f23_0 f25_0 f26_0 α a b k1
def pa4_0:PT (List DV):=pA [pV false [dL],pV false [dS]]
def Fn4_0 (v:Tf4_0)(α:Type)(k:RT α):Rows->BA->Op α:=fun a b=>v α a b (fun c=>ur4_0_0 k c)
def cm4_0g (a:TJ4_0_0)(b:TL4_0_1)(c:TJ4_0_3):MCode:=(.seq (.region r4_2 [] (tO [0,1])) (.seq (.seq (.region r4_5 [] (tO [0,1,26])) (.cond (.tmp 26) (.seq (.region r4_8 [] (tO [4])) .ret) .skip)) (.seq (.seq (.mark [⟨p4_0_0,F4_0_0 a⟩] c4_0_10) (.cond (.tmp 54) (.seq (.region r4_14 [] (tO [4])) .ret) .skip)) (.seq (.seq (.region r4_17 [] (tO [0,1,5])) (.block 0 (.loop td4_19 [⟨p4_0_2,F4_0_1 b⟩] c4_0_19))) (.seq (.region r4_52 [] (tO [0,1,9,10])) (.seq (.region r4_54 [] (tO [0,1,9,10,11,12])) (.seq (.seq (.region r4_57 [] (tO [0,1,118])) (.cond (.tmp 118) (.seq (.region r4_60 [] (tO [4])) .ret) .skip)) (.seq (.region r4_62 [] (tO [0,1,13,14])) (.seq (.mark [⟨p4_0_7,F4_0_3 c⟩] c4_0_63) (.seq (.region r4_82 [] (tO [1,19,20,21])) (.seq (.region r4_84 [] (tO [19,20,21,22,23,24])) (.seq (.region r4_86 [] (tO [4])) .ret))))))))))))
def cm4_0:MCode:=cm4_0g J4_0_0 L4_0_1 J4_0_3
theorem gm4_0:cm4_0.Good Pg E4_0 sh4:=⟨TT,⟨TT,⟨TT,TT⟩,TT⟩,⟨⟨g4_0_10,m4_0_0,TT⟩,⟨TT,TT⟩,TT⟩,⟨TT,g4_0_19,m4_0_1,TT⟩,TT,TT,⟨TT,⟨TT,TT⟩,TT⟩,TT,⟨g4_0_63,m4_0_3,TT⟩,TT,TT,TT,TT⟩
theorem fm4_0g (a:Tf15_0)(m:Tf16_0)(o:Tf17_0)(p:Tf18_0)(b:Tf19_0)(c:Tf20_0)(d:Tf21_0)(q:Tf22_0)(e:Tf23_0)(r:Tf24_0)(g:Tf25_0)(h:Tf26_0)(i:TJ4_0_0)(j:TL4_0_1)(l:TJ4_0_3)(α:Type)(k:RT α):Fn4_0 (f4_0g i l j a b c d e g h) α k=pa4_0.unc fun ds=>fnM Pg (E4_0g a m o p b c d q e r g h) sh4 (cm4_0g i j l) rs4 k ds:=by kernel_rfl
theorem fm4_0:∀ (α:Type) (k:RT α),Fn4_0 f4_0 α k=pa4_0.unc fun ds=>fnM Pg E4_0 sh4 cm4_0 rs4 k ds:=fm4_0g f15_0 f16_0 f17_0 f18_0 f19_0 f20_0 f21_0 f22_0 f23_0 f24_0 f25_0 f26_0 J4_0_0 L4_0_1 J4_0_3
theorem is4:FnIs Pg 4 nt4 tr4 tl4 cm4_0.erase rs4:=⟨Tryz.f4,Tryz.func4,rfl,by kernel_rfl,by kernel_rfl,by kernel_rfl⟩
theorem io4_0:InstOk Pg 4 nt4 ⟨pa4_0,Fn4_0 f4_0⟩:=inst_ok eo4_0 followsTry is4 ⟨⟨sh4,cm4_0,by kernel_rfl,gm4_0,fm4_0⟩⟩
end
end Go.AM.K
