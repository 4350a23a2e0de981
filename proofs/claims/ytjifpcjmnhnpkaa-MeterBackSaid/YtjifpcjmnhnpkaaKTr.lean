/- Printed by KGen. -/
import Derived.Test.YtjifpcjmnhnpkaaKTs
namespace Go.AM.K
open Go.Proofs
set_option maxRecDepth 100000
set_option linter.unusedVariables false
abbrev nt83 : Nat := 27
def sh83 : List (Nat × List Sh) := [(17, [.int .i64]), (23, [.int .i64])]
def r83_2 : List AOper := [oO 5 (.box (.tmp 2)), oO 6 (.mv (kI 0))]
def r83_6 : List AOper := [oM 8 0, oO 9 (.call 121 [(.tmp 8)]), oO 10 (.pure (oB (.unOp .not 4 (.tmp 9)) 4)), oM 7 10]
def r83_9 : List AOper := [oO 6 (.mv (kI 3))]
def r83_11 : List AOper := [oM 12 1, oO 13 (.call 98 [(.tmp 12), (kI 1000), (kI 200000)]), oO 14 (.pure (oB (.unOp .not 4 (.tmp 13)) 4)), oM 15 14, oG 16 (.faddr 0 (.tmp 5)) 15 false, oG 17 (.load false 1 (.tmp 16)) 15 false, oG 18 (.call 98 [(.tmp 17), (kI 5000), (kI 80000)]) 15 false, oG 19 (.pure (oB (.unOp .not 4 (.tmp 18)) 4)) 15 false, oO 20 (.pick (.tmp 15) (.const (.bool true)) (.tmp 19)), oM 21 20, oG 22 (.faddr 1 (.tmp 5)) 21 false, oG 23 (.load false 1 (.tmp 22)) 21 false, oG 24 (.call 98 [(.tmp 23), (kI 0), (kI 9999)]) 21 false, oG 25 (.pure (oB (.unOp .not 4 (.tmp 24)) 4)) 21 false, oO 26 (.pick (.tmp 21) (.const (.bool true)) (.tmp 25)), oM 11 26]
def r83_14 : List AOper := [oO 6 (.mv (kI 2))]
def r83_16 : List AOper := [oO 6 (.mv (kI 0))]
def tr83 : List (Nat × Tidy) := [tT 0 [0, 1, 5], tT 1 [1, 5, 7], tT 2 [6], tT 3 [11], tT 4 [6], tT 5 [6]]
def tl83 : List (Nat × Tidy) := []
def rs83 : List AResV := [.tmp 6]
def pr83_0_0 : PT (List RV) := pRs [pR false [rD (dI .i64)]]
def ur83_0_0 {β : Type} (g : List RV → β) : Int → β := pr83_0_0.unc g
def E83_0g (vf121_0 : Tf121_0) (vf98_0 : Tf98_0) : EnvK := EnvK.of [⟨121, nt121, [⟨pa121_0, Fn121_0 vf121_0⟩]⟩, ⟨98, nt98, [⟨pa98_0, Fn98_0 vf98_0⟩]⟩] noSeq
noncomputable def E83_0 : EnvK := E83_0g f121_0 f98_0
theorem eo83_0 : E83_0.Ok Try.prog := EnvK.of_ok noSeq_ok ⟨⟨io121_0, trivial⟩, ⟨io98_0, trivial⟩, trivial⟩
abbrev Tf83_0 : Type 1 := (α : Type) → ByteArray → Int → Int → Int → (Int → Option α) → Option α
def f83_0g (vf121_0 : Tf121_0) (vf98_0 : Tf98_0) (α : Type) (x1 : ByteArray) (x2 x3 x4 : Int) (k1 : Int → Option α) : Option α :=
 vf121_0 α x1
 (fun x5 => cK (!x5)
 (k1 3)
 (vf98_0 α x2 1000 200000
 (fun x6 => cK (!x6)
 (k1 2)
 (vf98_0 α x3 5000 80000
 (fun x7 => cK (!x7)
 (k1 2)
 (vf98_0 α x4 0 9999
 (fun x8 => cK (!x8)
 (k1 2)
 (k1 0))))))))
noncomputable def f83_0 (α : Type) (x1 : ByteArray) (x2 x3 x4 : Int) (k1 : Int → Option α) : Option α := f83_0g f121_0 f98_0 α x1 x2 x3 x4 k1
def pa83_0 : PT (List DV) := pA [pV false [dS], pV false [(dI .i64)], pV true [(dI .i64), (dI .i64)]]
def Fn83_0 (v : Tf83_0) (α : Type) (k : List RV → Option α) : ByteArray → Int → Int → Int → Option α := fun x1 x2 x3 x4 => v α x1 x2 x3 x4 (fun (y1 : Int) => ur83_0_0 k y1)
noncomputable def cm83_0g  : MCode := (.seq (.region r83_2 [] (tO [0, 1, 5])) (.seq (.block 0 (.seq (.region r83_6 [] (tO [1, 5, 7])) (.cond (.tmp 7) (.seq (.region r83_9 [] (tO [6])) .ret) (.seq (.region r83_11 [] (tO [11])) (.cond (.tmp 11) (.seq (.region r83_14 [] (tO [6])) .ret) .skip))))) (.seq (.region r83_16 [] (tO [6])) .ret)))
noncomputable def cm83_0 : MCode := cm83_0g 
theorem gm83_0 : cm83_0.Good Try.prog E83_0 sh83 := ⟨trivial, ⟨⟨trivial, ⟨⟨trivial, trivial⟩, ⟨trivial, ⟨⟨trivial, trivial⟩, trivial⟩⟩⟩⟩, ⟨trivial, trivial⟩⟩⟩
theorem fm83_0g (vf121_0 : Tf121_0) (vf98_0 : Tf98_0)  (α : Type) (k : List RV → Option α) : Fn83_0 (f83_0g vf121_0 vf98_0) α k = pa83_0.unc fun ds => fnM Try.prog (E83_0g vf121_0 vf98_0) sh83 (cm83_0g ) rs83 k ds := by kernel_rfl
theorem fm83_0 : ∀ (α : Type) (k : List RV → Option α), Fn83_0 f83_0 α k = pa83_0.unc fun ds => fnM Try.prog E83_0 sh83 cm83_0 rs83 k ds := fm83_0g f121_0 f98_0
theorem is83 : FnIs Try.prog 83 nt83 tr83 tl83 cm83_0.erase rs83 := ⟨Try.f83, Try.func83, rfl, by kernel_rfl, by kernel_rfl, by kernel_rfl⟩
theorem io83_0 : InstOk Try.prog 83 nt83 ⟨pa83_0, Fn83_0 f83_0⟩ := inst_ok eo83_0 followsTry is83 ⟨⟨sh83, cm83_0, by kernel_rfl, gm83_0, fm83_0⟩⟩
abbrev nt53 : Nat := 53
def sh53 : List (Nat × List Sh) := [(12, [.cpx .f64, .cpx .f64, .cpx .f64, .cpx .f64]), (26, [.int .i64, .int .i64]), (37, [.int .i64]), (41, [.int .i64]), (48, [.int .i64]), (52, [.int .i64, .int .i64, .int .i64, .int .i64])]
def r53_2 : List AOper := [oO 1 (.box (.tmp 0)), oO 2 (.alloc [(cI 0), (cI 0), (cI 0), (cI 0)]), oO 3 (.mv (kI 0))]
def r53_4 : List AOper := [oO 4 (.mv (.const (.slice none 0 0)))]
def r53_7 : List AOper := [oO 12 (.load true 4 (.tmp 1)), oO 13 (.mv (kI 0))]
def td53_9 : Option Tidy := (some ⟨[2, 4, 12, 13], true, [⟨false, 4, 0, 20004, 2⟩], []⟩)
def r53_11 : List AOper := [oO 14 (.bin .lss 3 (.tmp 13) (kI 4))]
def r53_17 : List AOper := [oO 15 (.index false 4 1 (.tmp 12) (.tmp 13)), oM 6 15]
def r53_19 : List AOper := [oM 17 6, oO 18 (.call 107 [(.tmp 17), (kI 10000000)]), oM 16 18, oO 19 (.extract 0 (.tmp 16)), oO 20 (.extract 1 (.tmp 16)), oO 7 (.alloc [(cI 0), (cI 0)]), oD (.store 2 (.tmp 7) (.tmp 19)), oM 8 20]
def r53_22 : List AOper := [oM 21 8, oO 22 (.bin .neq 28 (.tmp 21) (kI 0))]
def r53_25 : List AOper := [oO 23 (.build [(cI 0), (cI 0), (cI 0), (cI 0)] []), oM 24 8, oD (.store 4 (.tmp 2) (.tmp 23)), oM 3 24]
def r53_26 : List AOper := [oM 25 4, oO 26 (.load true 2 (.tmp 7)), oO 27 (.bslice 2 1 [(.v (.int .i64 0)), (.v (.int .i64 0))] [(0, (.tmp 26))]), oO 28 (.append 2 16 (.tmp 25) (.tmp 27)), oM 4 28]
def r53_27 : List AOper := [oO 29 (.bin .add 3 (.tmp 13) (kI 1)), oM 13 29]
def r53_29 : List AOper := [oO 9 (.alloc [(cI 0), (cI 0), (cI 0), (cI 0)])]
def r53_32 : List AOper := [oO 30 (.mv (kI 0))]
def td53_34 : Option Tidy := (some ⟨[2, 4, 9, 30], true, [⟨false, 4, 0, 20004, 2⟩], []⟩)
def r53_36 : List AOper := [oO 31 (.bin .lss 3 (.tmp 30) (kI 4))]
def r53_42 : List AOper := [oM 32 30, oM 10 32]
def r53_44 : List AOper := [oM 33 4, oM 34 10, oO 35 (.call 68 [(.tmp 33), (.tmp 34)]), oO 11 (.alloc [(cI 0), (cI 0)]), oD (.store 2 (.tmp 11) (.tmp 35))]
def r53_47 : List AOper := [oO 36 (.faddr 1 (.tmp 11)), oO 37 (.load false 1 (.tmp 36)), oO 38 (.bin .neq 3 (.tmp 37) (kI 0)), oM 39 38, oG 40 (.faddr 0 (.tmp 11)) 39 false, oG 41 (.load false 1 (.tmp 40)) 39 false, oG 42 (.bin .rem 3 (.tmp 41) (kI 4)) 39 false, oG 43 (.bin .neq 3 (.tmp 42) (kI 0)) 39 false, oO 44 (.pick (.tmp 39) (.const (.bool true)) (.tmp 43))]
def r53_50 : List AOper := [oO 45 (.build [(cI 0), (cI 0), (cI 0), (cI 0)] []), oD (.store 4 (.tmp 2) (.tmp 45)), oO 3 (.mv (kI 13))]
def r53_51 : List AOper := [oM 46 10, oO 47 (.faddr 0 (.tmp 11)), oO 48 (.load false 1 (.tmp 47)), oO 49 (.bin .quo 3 (.tmp 48) (kI 4)), oO 50 (.iaddr 1 (some 4) (.tmp 9) (.tmp 46)), oD (.store 1 (.tmp 50) (.tmp 49))]
def r53_52 : List AOper := [oO 51 (.bin .add 3 (.tmp 30) (kI 1)), oM 30 51]
def r53_54 : List AOper := [oO 52 (.load true 4 (.tmp 9)), oD (.store 4 (.tmp 2) (.tmp 52)), oO 3 (.mv (kI 0))]
def tr53 : List (Nat × Tidy) := [tT 0 [1, 2], tT 1 [1, 2, 4], tT 2 [2, 4, 12, 13], tT 3 [2, 4, 12, 13, 14], tT 4 [2, 4, 6, 12, 13], tT 5 [2, 4, 7, 8, 12, 13], tT 6 [2, 4, 7, 8, 12, 13, 22], tT 7 [2, 3], tT 8 [2, 4, 12, 13], tT 9 [2, 4, 12, 13], tT 10 [2, 4, 9], tT 11 [2, 4, 9, 30], tT 12 [2, 4, 9, 30, 31], tT 13 [2, 4, 9, 10, 30], tT 14 [2, 4, 9, 10, 11, 30], tT 15 [2, 4, 9, 10, 11, 30, 44], tT 16 [2, 3], tT 17 [2, 4, 9, 30], tT 18 [2, 4, 9, 30], tT 19 [2, 3]]
def tl53 : List (Nat × Tidy) := [(3, ⟨[2, 4, 12, 13], true, [⟨false, 4, 0, 20004, 2⟩], []⟩), (12, ⟨[2, 4, 9, 30], true, [⟨false, 4, 0, 20004, 2⟩], []⟩)]
def rs53 : List AResV := [.cell 2 true 4, .tmp 3]
def pr53_0_0 : PT (List RV) := pRs [pR true [rD (dI .i64), rD (dI .i64), rD (dI .i64), rD (dI .i64)], pR false [rD (dI .i64)]]
def ur53_0_0 {β : Type} (g : List RV → β) : Int → Int → Int → Int → Int → β := pr53_0_0.unc g
def E53_0g (vf107_0 : Tf107_0) (vf68_0 : Tf68_0) : EnvK := EnvK.of [⟨107, nt107, [⟨pa107_0, Fn107_0 vf107_0⟩]⟩, ⟨68, nt68, [⟨pa68_0, Fn68_0 vf68_0⟩]⟩] noSeq
noncomputable def E53_0 : EnvK := E53_0g f107_0 f68_0
theorem eo53_0 : E53_0.Ok Try.prog := EnvK.of_ok noSeq_ok ⟨⟨io107_0, trivial⟩, ⟨io68_0, trivial⟩, trivial⟩
abbrev Tf53_0 : Type 1 := (α : Type) → Nat → Nat → Nat → Nat → Nat → Nat → Nat → Nat → (Int → Int → Int → Int → Int → Option α) → Option α
def f53_0g (vf107_0 : Tf107_0) (vf68_0 : Tf68_0) (α : Type) (x1 x2 x3 x4 x5 x6 x7 x8 : Nat) (k1 : Int → Int → Int → Int → Int → Option α) : Option α :=
 vf107_0 α x1 x2 10000000
 (fun x9 x10 x11 => cK (x11 != 0)
 (k1 0 0 0 0 x11)
 (vf107_0 α x3 x4 10000000
 (fun x12 x13 x14 => cK (x14 != 0)
 (k1 0 0 0 0 x14)
 (vf107_0 α x5 x6 10000000
 (fun x15 x16 x17 => cK (x17 != 0)
 (k1 0 0 0 0 x17)
 (vf107_0 α x7 x8 10000000
 (fun x18 x19 x20 => cK (x20 != 0)
 (k1 0 0 0 0 x20)
 (vf68_0 α [[DC.v (.int .i64 x9), DC.v (.int .i64 x10)], [DC.v (.int .i64 x12), DC.v (.int .i64 x13)], [DC.v (.int .i64 x15), DC.v (.int .i64 x16)], [DC.v (.int .i64 x18), DC.v (.int .i64 x19)]] 0
 (fun x21 x22 => cK (x22 != 0)
 (k1 0 0 0 0 13)
 (cK ((Int.tmod x21 4) != 0)
 (k1 0 0 0 0 13)
 (vf68_0 α [[DC.v (.int .i64 x9), DC.v (.int .i64 x10)], [DC.v (.int .i64 x12), DC.v (.int .i64 x13)], [DC.v (.int .i64 x15), DC.v (.int .i64 x16)], [DC.v (.int .i64 x18), DC.v (.int .i64 x19)]] 1
 (fun x23 x24 => cK (x24 != 0)
 (k1 0 0 0 0 13)
 (cK ((Int.tmod x23 4) != 0)
 (k1 0 0 0 0 13)
 (vf68_0 α [[DC.v (.int .i64 x9), DC.v (.int .i64 x10)], [DC.v (.int .i64 x12), DC.v (.int .i64 x13)], [DC.v (.int .i64 x15), DC.v (.int .i64 x16)], [DC.v (.int .i64 x18), DC.v (.int .i64 x19)]] 2
 (fun x25 x26 => cK (x26 != 0)
 (k1 0 0 0 0 13)
 (cK ((Int.tmod x25 4) != 0)
 (k1 0 0 0 0 13)
 (vf68_0 α [[DC.v (.int .i64 x9), DC.v (.int .i64 x10)], [DC.v (.int .i64 x12), DC.v (.int .i64 x13)], [DC.v (.int .i64 x15), DC.v (.int .i64 x16)], [DC.v (.int .i64 x18), DC.v (.int .i64 x19)]] 3
 (fun x27 x28 => cK (x28 != 0)
 (k1 0 0 0 0 13)
 (cK ((Int.tmod x27 4) != 0)
 (k1 0 0 0 0 13)
 (k1 (w64 (Int.tdiv x21 4)) (w64 (Int.tdiv x23 4)) (w64 (Int.tdiv x25 4)) (w64 (Int.tdiv x27 4)) 0))))))))))))))))))))
noncomputable def f53_0 (α : Type) (x1 x2 x3 x4 x5 x6 x7 x8 : Nat) (k1 : Int → Int → Int → Int → Int → Option α) : Option α := f53_0g f107_0 f68_0 α x1 x2 x3 x4 x5 x6 x7 x8 k1
def pa53_0 : PT (List DV) := pA [pV true [(dX .f64), (dX .f64), (dX .f64), (dX .f64)]]
def Fn53_0 (v : Tf53_0) (α : Type) (k : List RV → Option α) : Nat → Nat → Nat → Nat → Nat → Nat → Nat → Nat → Option α := fun x1 x2 x3 x4 x5 x6 x7 x8 => v α x1 x2 x3 x4 x5 x6 x7 x8 (fun (y1 : Int) (y2 : Int) (y3 : Int) (y4 : Int) (y5 : Int) => ur53_0_0 k y1 y2 y3 y4 y5)
noncomputable def cm53_0g  : MCode := (.seq (.region r53_2 [] (tO [1, 2])) (.seq (.region r53_4 [] (tO [1, 2, 4])) (.seq (.seq (.region r53_7 [] (tO [2, 4, 12, 13])) (.block 0 (.loopU 5 td53_9 (.seq (.region r53_11 [] (tO [2, 4, 12, 13, 14])) (.seq (.cond (.tmp 14) .skip (.exit 0)) (.seq (.block 1 (.seq (.region r53_17 [] (tO [2, 4, 6, 12, 13])) (.seq (.region r53_19 [] (tO [2, 4, 7, 8, 12, 13])) (.seq (.seq (.region r53_22 [] (tO [2, 4, 7, 8, 12, 13, 22])) (.cond (.tmp 22) (.seq (.region r53_25 [] (tO [2, 3])) .ret) .skip)) (.region r53_26 [] (tO [2, 4, 12, 13])))))) (.region r53_27 [] (tO [2, 4, 12, 13])))))))) (.seq (.region r53_29 [] (tO [2, 4, 9])) (.seq (.seq (.region r53_32 [] (tO [2, 4, 9, 30])) (.block 2 (.loopU 5 td53_34 (.seq (.region r53_36 [] (tO [2, 4, 9, 30, 31])) (.seq (.cond (.tmp 31) .skip (.exit 2)) (.seq (.block 3 (.seq (.region r53_42 [] (tO [2, 4, 9, 10, 30])) (.seq (.region r53_44 [] (tO [2, 4, 9, 10, 11, 30])) (.seq (.seq (.region r53_47 [] (tO [2, 4, 9, 10, 11, 30, 44])) (.cond (.tmp 44) (.seq (.region r53_50 [] (tO [2, 3])) .ret) .skip)) (.region r53_51 [] (tO [2, 4, 9, 30])))))) (.region r53_52 [] (tO [2, 4, 9, 30])))))))) (.seq (.region r53_54 [] (tO [2, 3])) .ret))))))
noncomputable def cm53_0 : MCode := cm53_0g 
theorem gm53_0 : cm53_0.Good Try.prog E53_0 sh53 := ⟨trivial, ⟨trivial, ⟨⟨trivial, ⟨⟨trivial, ⟨⟨trivial, trivial⟩, ⟨⟨trivial, ⟨trivial, ⟨⟨trivial, ⟨⟨trivial, trivial⟩, trivial⟩⟩, trivial⟩⟩⟩, trivial⟩⟩⟩, by decide⟩⟩, ⟨trivial, ⟨⟨trivial, ⟨⟨trivial, ⟨⟨trivial, trivial⟩, ⟨⟨trivial, ⟨trivial, ⟨⟨trivial, ⟨⟨trivial, trivial⟩, trivial⟩⟩, trivial⟩⟩⟩, trivial⟩⟩⟩, by decide⟩⟩, ⟨trivial, trivial⟩⟩⟩⟩⟩⟩
theorem fm53_0g (vf107_0 : Tf107_0) (vf68_0 : Tf68_0)  (α : Type) (k : List RV → Option α) : Fn53_0 (f53_0g vf107_0 vf68_0) α k = pa53_0.unc fun ds => fnM Try.prog (E53_0g vf107_0 vf68_0) sh53 (cm53_0g ) rs53 k ds := by kernel_rfl
theorem fm53_0 : ∀ (α : Type) (k : List RV → Option α), Fn53_0 f53_0 α k = pa53_0.unc fun ds => fnM Try.prog E53_0 sh53 cm53_0 rs53 k ds := fm53_0g f107_0 f68_0
theorem is53 : FnIs Try.prog 53 nt53 tr53 tl53 cm53_0.erase rs53 := ⟨Try.f53, Try.func53, rfl, by kernel_rfl, by kernel_rfl, by kernel_rfl⟩
theorem io53_0 : InstOk Try.prog 53 nt53 ⟨pa53_0, Fn53_0 f53_0⟩ := inst_ok eo53_0 followsTry is53 ⟨⟨sh53, cm53_0, by kernel_rfl, gm53_0, fm53_0⟩⟩
abbrev nt49 : Nat := 45
def sh49 : List (Nat × List Sh) := [(7, [.str]), (9, [.int .i64]), (11, [.int .i64, .int .i64]), (16, [.str, .int .i64, .int .i64, .int .i64, .int .i64, .int .i64, .int .i64, .int .i64, .int .i64, .int .i64]), (25, [.int .i64]), (32, [.int .i64]), (39, [.int .i64]), (43, [.int .i64])]
def r49_2 : List AOper := [oO 1 (.box (.tmp 0)), oO 2 (.mv (kI 0))]
def r49_5 : List AOper := [oO 6 (.faddr 0 (.tmp 1)), oO 7 (.load false 1 (.tmp 6)), oO 8 (.faddr 1 (.tmp 1)), oO 9 (.load false 1 (.tmp 8)), oO 10 (.faddr 2 (.tmp 1)), oO 11 (.load true 2 (.tmp 10)), oO 12 (.call 91 [(.tmp 7), (.tmp 9), (.tmp 11)]), oM 3 12]
def r49_7 : List AOper := [oM 13 3, oO 14 (.bin .neq 3 (.tmp 13) (kI 0))]
def r49_10 : List AOper := [oM 15 3, oM 2 15]
def r49_12 : List AOper := [oO 16 (.load true 10 (.tmp 1)), oO 17 (.call 103 [(.tmp 16)]), oO 4 (.alloc [(cI 0), (cI 0), (cI 0), (cI 0), (cI 0), (cI 0)]), oD (.store 6 (.tmp 4) (.tmp 17))]
def r49_15 : List AOper := [oO 5 (.mv (kI 0))]
def td49_17 : Option Tidy := (tO [4, 5])
def r49_20 : List AOper := [oM 18 5, oO 19 (.bin .lss 3 (.tmp 18) (kI 3))]
def r49_26 : List AOper := [oM 22 5, oO 23 (.iaddr 2 (some 3) (.tmp 4) (.tmp 22)), oO 24 (.faddr 0 (.tmp 23)), oO 25 (.load false 1 (.tmp 24)), oO 26 (.call 29 [(.tmp 25), (kI (-1048576)), (kI 1048576)]), oO 27 (.pure (oB (.unOp .not 4 (.tmp 26)) 4)), oM 28 27, oG 29 (.mv (.tmp 5)) 28 false, oG 30 (.iaddr 2 (some 3) (.tmp 4) (.tmp 29)) 28 false, oG 31 (.faddr 1 (.tmp 30)) 28 false, oG 32 (.load false 1 (.tmp 31)) 28 false, oG 33 (.call 29 [(.tmp 32), (kI (-1048576)), (kI 1048576)]) 28 false, oG 34 (.pure (oB (.unOp .not 4 (.tmp 33)) 4)) 28 false, oO 35 (.pick (.tmp 28) (.const (.bool true)) (.tmp 34))]
def r49_29 : List AOper := [oO 2 (.mv (kI 2))]
def r49_31 : List AOper := [oM 36 5, oO 37 (.iaddr 2 (some 3) (.tmp 4) (.tmp 36)), oO 38 (.faddr 0 (.tmp 37)), oO 39 (.load false 1 (.tmp 38)), oM 40 5, oO 41 (.iaddr 2 (some 3) (.tmp 4) (.tmp 40)), oO 42 (.faddr 1 (.tmp 41)), oO 43 (.load false 1 (.tmp 42)), oO 44 (.bin .gtr 3 (.tmp 39) (.tmp 43))]
def r49_34 : List AOper := [oO 2 (.mv (kI 10))]
def r49_35 : List AOper := [oM 20 5, oO 21 (.bin .add 3 (.tmp 20) (kI 1)), oM 5 21]
def r49_37 : List AOper := [oO 2 (.mv (kI 0))]
def tr49 : List (Nat × Tidy) := [tT 0 [1], tT 1 [1, 3], tT 2 [1, 3, 14], tT 3 [2], tT 4 [4], tT 5 [4, 5], tT 6 [4, 5, 19], tT 8 [4, 5, 35], tT 9 [2], tT 10 [4, 5, 44], tT 11 [2], tT 7 [4, 5], tT 12 [2]]
def tl49 : List (Nat × Tidy) := [tT 6 [4, 5]]
def rs49 : List AResV := [.tmp 2]
def p49_0_0 : PT St := pS [sl 4 (aV false [(cPtr 4 0)]), sl 5 (aV false [(cD (dI .i64))]), sl 19 (aV false [(cD dB)])] [eBox 4 [(cD (dI .i64)), (cD (dI .i64)), (cD (dI .i64)), (cD (dI .i64)), (cD (dI .i64)), (cD (dI .i64))]]
def u49_0_0 {β : Type} (g : St → β) : Int → Bool → Int → Int → Int → Int → Int → Int → β := p49_0_0.unc g
def p49_0_1 : PT St := pS [sl 4 (aV false [(cPtr 4 0)]), sl 5 (aV false [(cD (dI .i64))]), sl 35 (aV false [(cD dB)])] [eBox 4 [(cD (dI .i64)), (cD (dI .i64)), (cD (dI .i64)), (cD (dI .i64)), (cD (dI .i64)), (cD (dI .i64))]]
def u49_0_1 {β : Type} (g : St → β) : Int → Bool → Int → Int → Int → Int → Int → Int → β := p49_0_1.unc g
def p49_0_2 : PT St := pS [sl 4 (aV false [(cPtr 4 0)]), sl 5 (aV false [(cD (dI .i64))]), sl 44 (aV false [(cD dB)])] [eBox 4 [(cD (dI .i64)), (cD (dI .i64)), (cD (dI .i64)), (cD (dI .i64)), (cD (dI .i64)), (cD (dI .i64))]]
def u49_0_2 {β : Type} (g : St → β) : Int → Bool → Int → Int → Int → Int → Int → Int → β := p49_0_2.unc g
def p49_0_3 : PT St := pS [sl 4 (aV false [(cPtr 4 0)]), sl 5 (aV false [(cD (dI .i64))])] [eBox 4 [(cD (dI .i64)), (cD (dI .i64)), (cD (dI .i64)), (cD (dI .i64)), (cD (dI .i64)), (cD (dI .i64))]]
def u49_0_3 {β : Type} (g : St → β) : Int → Int → Int → Int → Int → Int → Int → β := p49_0_3.unc g
def p49_0_4 : PT St := pS [sl 2 (aV false [(cD (dI .i64))])] []
def u49_0_4 {β : Type} (g : St → β) : Int → β := p49_0_4.unc g
def pr49_0_0 : PT (List RV) := pRs [pR false [rD (dI .i64)]]
def ur49_0_0 {β : Type} (g : List RV → β) : Int → β := pr49_0_0.unc g
def E49_0g (vf91_0 : Tf91_0) (vf103_0 : Tf103_0) (vf29_0 : Tf29_0) : EnvK := EnvK.of [⟨91, nt91, [⟨pa91_0, Fn91_0 vf91_0⟩]⟩, ⟨103, nt103, [⟨pa103_0, Fn103_0 vf103_0⟩]⟩, ⟨29, nt29, [⟨pa29_0, Fn29_0 vf29_0⟩]⟩] noSeq
noncomputable def E49_0 : EnvK := E49_0g f91_0 f103_0 f29_0
theorem eo49_0 : E49_0.Ok Try.prog := EnvK.of_ok noSeq_ok ⟨⟨io91_0, trivial⟩, ⟨io103_0, trivial⟩, ⟨io29_0, trivial⟩, trivial⟩
noncomputable def c49_0_30g  : MCode := (.region r49_31 [] (tO [4, 5, 44]))
noncomputable def c49_0_30 : MCode := c49_0_30g 
theorem g49_0_30 : c49_0_30.Good Try.prog E49_0 sh49 := trivial
--CODE 30 0
abbrev TJ49_0_1 : Type 1 := (α : Type) → Int → Int → Int → Int → Int → Int → Int → (Bool → Option α) → Option α
def J49_0_1g  (α : Type) (x49 x51 x52 x53 x54 x55 x56 : Int) (k1 : Bool → Option α) : Option α :=
 cK (x49 == 2)
 (cK (x49 == 2)
 (k1 (decide (x56 < x55)))
 (cK (x49 == 1)
 (k1 (decide (x54 < x55)))
 (cK (x49 == 0)
 (k1 (decide (x52 < x55)))
 (none))))
 (cK (x49 == 1)
 (cK (x49 == 2)
 (k1 (decide (x56 < x53)))
 (cK (x49 == 1)
 (k1 (decide (x54 < x53)))
 (cK (x49 == 0)
 (k1 (decide (x52 < x53)))
 (none))))
 (cK (x49 == 0)
 (cK (x49 == 2)
 (k1 (decide (x56 < x51)))
 (cK (x49 == 1)
 (k1 (decide (x54 < x51)))
 (cK (x49 == 0)
 (k1 (decide (x52 < x51)))
 (none))))
 (none)))
noncomputable def J49_0_1 (α : Type) (x49 x51 x52 x53 x54 x55 x56 : Int) (k1 : Bool → Option α) : Option α := J49_0_1g  α x49 x51 x52 x53 x54 x55 x56 k1
def F49_0_1 (v : TJ49_0_1) (α : Type) (K : Exit → St → Option α) : Int → Bool → Int → Int → Int → Int → Int → Int → Option α := fun x49 x50 x51 x52 x53 x54 x55 x56 => v α x49 x51 x52 x53 x54 x55 x56 (fun (y1 : Bool) => u49_0_2 (K .normal) x49 y1 x51 x52 x53 x54 x55 x56) 
theorem m49_0_1g (vf91_0 : Tf91_0) (vf103_0 : Tf103_0) (vf29_0 : Tf29_0)  (α : Type) (K : Exit → St → Option α) : F49_0_1 (J49_0_1g ) α K = p49_0_1.unc fun σ => runM Try.prog (E49_0g vf91_0 vf103_0 vf29_0) sh49 (c49_0_30g ) K σ := by kernel_rfl
theorem m49_0_1 : ∀ (α : Type) (K : Exit → St → Option α), F49_0_1 J49_0_1 α K = p49_0_1.unc fun σ => runM Try.prog E49_0 sh49 c49_0_30 K σ := m49_0_1g f91_0 f103_0 f29_0
noncomputable def c49_0_25g  : MCode := (.region r49_26 [] (tO [4, 5, 35]))
noncomputable def c49_0_25 : MCode := c49_0_25g 
theorem g49_0_25 : c49_0_25.Good Try.prog E49_0 sh49 := trivial
--CODE 25 0
abbrev TJ49_0_0 : Type 1 := (α : Type) → Int → Int → Int → Int → Int → Int → Int → (Bool → Option α) → Option α
def J49_0_0g (vf29_0 : Tf29_0) (α : Type) (x26 x28 x29 x30 x31 x32 x33 : Int) (k1 : Bool → Option α) : Option α :=
 cK (x26 == 2)
 (vf29_0 α x32 (-1048576) 1048576
 (fun x35 => cK (!x35)
 (k1 true)
 (cK (x26 == 2)
 (vf29_0 α x33 (-1048576) 1048576
 (fun x36 => k1 (!x36)))
 (cK (x26 == 1)
 (vf29_0 α x31 (-1048576) 1048576
 (fun x37 => k1 (!x37)))
 (cK (x26 == 0)
 (vf29_0 α x29 (-1048576) 1048576
 (fun x38 => k1 (!x38)))
 (none))))))
 (cK (x26 == 1)
 (vf29_0 α x30 (-1048576) 1048576
 (fun x39 => cK (!x39)
 (k1 true)
 (cK (x26 == 2)
 (vf29_0 α x33 (-1048576) 1048576
 (fun x40 => k1 (!x40)))
 (cK (x26 == 1)
 (vf29_0 α x31 (-1048576) 1048576
 (fun x41 => k1 (!x41)))
 (cK (x26 == 0)
 (vf29_0 α x29 (-1048576) 1048576
 (fun x42 => k1 (!x42)))
 (none))))))
 (cK (x26 == 0)
 (vf29_0 α x28 (-1048576) 1048576
 (fun x43 => cK (!x43)
 (k1 true)
 (cK (x26 == 2)
 (vf29_0 α x33 (-1048576) 1048576
 (fun x44 => k1 (!x44)))
 (cK (x26 == 1)
 (vf29_0 α x31 (-1048576) 1048576
 (fun x45 => k1 (!x45)))
 (cK (x26 == 0)
 (vf29_0 α x29 (-1048576) 1048576
 (fun x46 => k1 (!x46)))
 (none))))))
 (none)))
noncomputable def J49_0_0 (α : Type) (x26 x28 x29 x30 x31 x32 x33 : Int) (k1 : Bool → Option α) : Option α := J49_0_0g f29_0 α x26 x28 x29 x30 x31 x32 x33 k1
def F49_0_0 (v : TJ49_0_0) (α : Type) (K : Exit → St → Option α) : Int → Bool → Int → Int → Int → Int → Int → Int → Option α := fun x26 x27 x28 x29 x30 x31 x32 x33 => v α x26 x28 x29 x30 x31 x32 x33 (fun (y1 : Bool) => u49_0_1 (K .normal) x26 y1 x28 x29 x30 x31 x32 x33) 
theorem m49_0_0g (vf91_0 : Tf91_0) (vf103_0 : Tf103_0) (vf29_0 : Tf29_0)  (α : Type) (K : Exit → St → Option α) : F49_0_0 (J49_0_0g vf29_0) α K = p49_0_0.unc fun σ => runM Try.prog (E49_0g vf91_0 vf103_0 vf29_0) sh49 (c49_0_25g ) K σ := by kernel_rfl
theorem m49_0_0 : ∀ (α : Type) (K : Exit → St → Option α), F49_0_0 J49_0_0 α K = p49_0_0.unc fun σ => runM Try.prog E49_0 sh49 c49_0_25 K σ := m49_0_0g f91_0 f103_0 f29_0
noncomputable def c49_0_17g (vJ49_0_0 : TJ49_0_0) (vJ49_0_1 : TJ49_0_1) : MCode := (.seq (.seq (.region r49_20 [] (tO [4, 5, 19])) (.cond (.tmp 19) .skip (.exit 0))) (.seq (.block 1 (.seq (.seq (.mark [⟨p49_0_0, F49_0_0 vJ49_0_0⟩] c49_0_25) (.cond (.tmp 35) (.seq (.region r49_29 [] (tO [2])) .ret) .skip)) (.seq (.mark [⟨p49_0_1, F49_0_1 vJ49_0_1⟩] c49_0_30) (.cond (.tmp 44) (.seq (.region r49_34 [] (tO [2])) .ret) .skip)))) (.region r49_35 [] (tO [4, 5]))))
noncomputable def c49_0_17 : MCode := c49_0_17g J49_0_0 J49_0_1
theorem g49_0_17 : c49_0_17.Good Try.prog E49_0 sh49 := ⟨⟨trivial, ⟨trivial, trivial⟩⟩, ⟨⟨⟨⟨g49_0_25, m49_0_0, trivial⟩, ⟨⟨trivial, trivial⟩, trivial⟩⟩, ⟨⟨g49_0_30, m49_0_1, trivial⟩, ⟨⟨trivial, trivial⟩, trivial⟩⟩⟩, trivial⟩⟩
--CODE 17 0
def S49_0_2g (vJ49_0_0 : TJ49_0_0) (vJ49_0_1 : TJ49_0_1) (α : Type) (x19 x20 x21 x22 x23 x24 x18 : Int) (kn : Int → Option α) (k1 : Int → Option α) (k2 : Int → Bool → Option α) : Option α :=
 cK (decide (x18 < 3))
 (vJ49_0_0 α x18 x19 x20 x21 x22 x23 x24
 (fun x47 => cK x47
 (k1 2)
 (vJ49_0_1 α x18 x19 x20 x21 x22 x23 x24
 (fun x58 => cK x58
 (k1 10)
 (kn (w64 (x18 + 1)))))))
 (k2 x18 (decide (x18 < 3)))
noncomputable def S49_0_2 (α : Type) (x19 x20 x21 x22 x23 x24 x18 : Int) (kn : Int → Option α) (k1 : Int → Option α) (k2 : Int → Bool → Option α) : Option α := S49_0_2g J49_0_0 J49_0_1 α x19 x20 x21 x22 x23 x24 x18 kn k1 k2
noncomputable def R49_0_2 (α : Type) (x19 x20 x21 x22 x23 x24 : Int) (k1 : Int → Option α) (k2 : Int → Bool → Option α) : Nat → Int → Option α
 | 0, _ => none
 | n + 1, x18 => S49_0_2 α x19 x20 x21 x22 x23 x24 x18 (R49_0_2 α x19 x20 x21 x22 x23 x24 k1 k2 n) k1 k2
noncomputable def L49_0_2 (α : Type) (x19 x20 x21 x22 x23 x24 : Int) (k1 : Int → Option α) (k2 : Int → Bool → Option α) (x18 : Int) : Option α := R49_0_2 α x19 x20 x21 x22 x23 x24 k1 k2 fuel x18
abbrev TL49_0_2 : Type 1 := (α : Type) → Int → Int → Int → Int → Int → Int → (Int → Option α) → (Int → Bool → Option α) → Int → Option α
def F49_0_2 (v : TL49_0_2) (α : Type) (K : Exit → St → Option α) : Int → Int → Int → Int → Int → Int → Int → Option α := fun x18 x19 x20 x21 x22 x23 x24 => v α x19 x20 x21 x22 x23 x24 (fun (y1 : Int) => u49_0_4 (K .ret) y1) (fun (y1 : Int) (y2 : Bool) => u49_0_0 (K (.exit 0)) y1 y2 x19 x20 x21 x22 x23 x24) x18
theorem r49_0_2g (vf91_0 : Tf91_0) (vf103_0 : Tf103_0) (vf29_0 : Tf29_0) (vJ49_0_0 : TJ49_0_0) (vJ49_0_1 : TJ49_0_1) (α : Type) (K : Exit → St → Option α) (Kn : St → Option α) (x18 x19 x20 x21 x22 x23 x24 : Int) : u49_0_3 (fun σ => runM Try.prog (E49_0g vf91_0 vf103_0 vf29_0) sh49 (c49_0_17g vJ49_0_0 vJ49_0_1) (thenK (fun σ => tidyK td49_17 σ Kn) K) σ) x18 x19 x20 x21 x22 x23 x24 = S49_0_2g vJ49_0_0 vJ49_0_1 α x19 x20 x21 x22 x23 x24 x18 (fun x18 => u49_0_3 Kn x18 x19 x20 x21 x22 x23 x24) (fun (y1 : Int) => u49_0_4 (K .ret) y1) (fun (y1 : Int) (y2 : Bool) => u49_0_0 (K (.exit 0)) y1 y2 x19 x20 x21 x22 x23 x24) := by kernel_rfl
theorem r49_0_2 (α : Type) (K : Exit → St → Option α) (Kn : St → Option α) (x18 x19 x20 x21 x22 x23 x24 : Int) : u49_0_3 (fun σ => runM Try.prog E49_0 sh49 c49_0_17 (thenK (fun σ => tidyK td49_17 σ Kn) K) σ) x18 x19 x20 x21 x22 x23 x24 = S49_0_2 α x19 x20 x21 x22 x23 x24 x18 (fun x18 => u49_0_3 Kn x18 x19 x20 x21 x22 x23 x24) (fun (y1 : Int) => u49_0_4 (K .ret) y1) (fun (y1 : Int) (y2 : Bool) => u49_0_0 (K (.exit 0)) y1 y2 x19 x20 x21 x22 x23 x24) := r49_0_2g f91_0 f103_0 f29_0 J49_0_0 J49_0_1 α K Kn x18 x19 x20 x21 x22 x23 x24
theorem t49_0_2 (α : Type) (K : Exit → St → Option α) : ∀ (n : Nat) (x18 x19 x20 x21 x22 x23 x24 : Int), R49_0_2 α x19 x20 x21 x22 x23 x24 (fun (y1 : Int) => u49_0_4 (K .ret) y1) (fun (y1 : Int) (y2 : Bool) => u49_0_0 (K (.exit 0)) y1 y2 x19 x20 x21 x22 x23 x24) n x18 = u49_0_3 (loopT (runM Try.prog E49_0 sh49 c49_0_17) td49_17 K n) x18 x19 x20 x21 x22 x23 x24 := by
 intro n
 induction n with
 | zero => intros; rfl
 | succ n ih => intro x18 x19 x20 x21 x22 x23 x24; exact (congrArg (fun kn => S49_0_2 α x19 x20 x21 x22 x23 x24 x18 kn (fun (y1 : Int) => u49_0_4 (K .ret) y1) (fun (y1 : Int) (y2 : Bool) => u49_0_0 (K (.exit 0)) y1 y2 x19 x20 x21 x22 x23 x24)) (funext fun x18 => ih x18 x19 x20 x21 x22 x23 x24)).trans (r49_0_2 α K (loopT (runM Try.prog E49_0 sh49 c49_0_17) td49_17 K n) x18 x19 x20 x21 x22 x23 x24).symm
theorem m49_0_2 : ∀ (α : Type) (K : Exit → St → Option α), F49_0_2 L49_0_2 α K = p49_0_3.unc fun σ => loopT (runM Try.prog E49_0 sh49 c49_0_17) td49_17 K fuel σ := fun α K => funext fun x18 => funext fun x19 => funext fun x20 => funext fun x21 => funext fun x22 => funext fun x23 => funext fun x24 => t49_0_2 α K fuel x18 x19 x20 x21 x22 x23 x24
abbrev Tf49_0 : Type 1 := (α : Type) → ByteArray → Int → Int → Int → Int → Int → Int → Int → Int → Int → (Int → Option α) → Option α
def f49_0g (vL49_0_2 : TL49_0_2) (vf103_0 : Tf103_0) (vf91_0 : Tf91_0) (α : Type) (x1 : ByteArray) (x2 x3 x4 x5 x6 x7 x8 x9 x10 : Int) (k1 : Int → Option α) : Option α :=
 vf91_0 α x1 x2 x3 x4
 (fun x11 => cK (x11 != 0)
 (k1 x11)
 (vf103_0 α x1 x2 x3 x4 x5 x6 x7 x8 x9 x10
 (fun x12 x13 x14 x15 x16 x17 => vL49_0_2 α x12 x13 x14 x15 x16 x17
 (fun x60 => k1 x60)
 (fun x61 x62 => k1 0) 0)))
noncomputable def f49_0 (α : Type) (x1 : ByteArray) (x2 x3 x4 x5 x6 x7 x8 x9 x10 : Int) (k1 : Int → Option α) : Option α := f49_0g L49_0_2 f103_0 f91_0 α x1 x2 x3 x4 x5 x6 x7 x8 x9 x10 k1
def pa49_0 : PT (List DV) := pA [pV true [dS, (dI .i64), (dI .i64), (dI .i64), (dI .i64), (dI .i64), (dI .i64), (dI .i64), (dI .i64), (dI .i64)]]
def Fn49_0 (v : Tf49_0) (α : Type) (k : List RV → Option α) : ByteArray → Int → Int → Int → Int → Int → Int → Int → Int → Int → Option α := fun x1 x2 x3 x4 x5 x6 x7 x8 x9 x10 => v α x1 x2 x3 x4 x5 x6 x7 x8 x9 x10 (fun (y1 : Int) => ur49_0_0 k y1)
noncomputable def cm49_0g (vL49_0_2 : TL49_0_2) : MCode := (.seq (.region r49_2 [] (tO [1])) (.seq (.seq (.region r49_5 [] (tO [1, 3])) (.seq (.region r49_7 [] (tO [1, 3, 14])) (.cond (.tmp 14) (.seq (.region r49_10 [] (tO [2])) .ret) .skip))) (.seq (.region r49_12 [] (tO [4])) (.seq (.seq (.region r49_15 [] (tO [4, 5])) (.block 0 (.loop td49_17 [⟨p49_0_3, F49_0_2 vL49_0_2⟩] c49_0_17))) (.seq (.region r49_37 [] (tO [2])) .ret)))))
noncomputable def cm49_0 : MCode := cm49_0g L49_0_2
theorem gm49_0 : cm49_0.Good Try.prog E49_0 sh49 := ⟨trivial, ⟨⟨trivial, ⟨trivial, ⟨⟨trivial, trivial⟩, trivial⟩⟩⟩, ⟨trivial, ⟨⟨trivial, ⟨g49_0_17, m49_0_2, trivial⟩⟩, ⟨trivial, trivial⟩⟩⟩⟩⟩
theorem fm49_0g (vf91_0 : Tf91_0) (vf103_0 : Tf103_0) (vf29_0 : Tf29_0) (vL49_0_2 : TL49_0_2) (α : Type) (k : List RV → Option α) : Fn49_0 (f49_0g vL49_0_2 vf103_0 vf91_0) α k = pa49_0.unc fun ds => fnM Try.prog (E49_0g vf91_0 vf103_0 vf29_0) sh49 (cm49_0g vL49_0_2) rs49 k ds := by kernel_rfl
theorem fm49_0 : ∀ (α : Type) (k : List RV → Option α), Fn49_0 f49_0 α k = pa49_0.unc fun ds => fnM Try.prog E49_0 sh49 cm49_0 rs49 k ds := fm49_0g f91_0 f103_0 f29_0 L49_0_2
theorem is49 : FnIs Try.prog 49 nt49 tr49 tl49 cm49_0.erase rs49 := ⟨Try.f49, Try.func49, rfl, by kernel_rfl, by kernel_rfl, by kernel_rfl⟩
theorem io49_0 : InstOk Try.prog 49 nt49 ⟨pa49_0, Fn49_0 f49_0⟩ := inst_ok eo49_0 followsTry is49 ⟨⟨sh49, cm49_0, by kernel_rfl, gm49_0, fm49_0⟩⟩
abbrev nt35 : Nat := 95
def sh35 : List (Nat × List Sh) := [(10, [.sl, .int .i64, .int .i64]), (15, [.sl, .int .i64, .int .i64]), (26, [.int .i64]), (27, [.int .i64]), (32, [.int .i64]), (33, [.int .i64]), (38, [.int .i64]), (39, [.int .i64]), (44, [.int .i64]), (45, [.int .i64]), (50, [.int .i64]), (51, [.int .i64]), (56, [.int .i64]), (57, [.int .i64]), (63, [.int .i64]), (64, [.int .i64]), (69, [.int .i64]), (70, [.int .i64]), (77, [.int .i64]), (84, [.int .i64]), (91, [.int .i64])]
def r35_2 : List AOper := [oO 1 (.box (.tmp 0)), oO 2 (.alloc [(cI 0), (cI 0), (cI 0), (cI 0), (cI 0), (cI 0)]), oO 3 (.mv (kI 0))]
def r35_5 : List AOper := [oO 10 (.load true 3 (.tmp 1)), oO 11 (.call 37 [(.tmp 10)]), oO 12 (.len (.tmp 11)), oO 13 (.bin .gtr 3 (.tmp 12) (kI 0))]
def r35_8 : List AOper := [oO 14 (.build [(cI 0), (cI 0), (cI 0), (cI 0), (cI 0), (cI 0)] []), oD (.store 6 (.tmp 2) (.tmp 14)), oO 3 (.mv (kI 16))]
def r35_10 : List AOper := [oO 15 (.load true 3 (.tmp 1)), oO 16 (.call 72 [(.tmp 15)]), oM 4 16]
def r35_12 : List AOper := [oO 5 (.mv (kI 0)), oO 6 (.mv (kI 0)), oO 7 (.mv (kI 0))]
def r35_15 : List AOper := [oO 8 (.mv (kI 0))]
def td35_17 : Option Tidy := (some ⟨[1, 2, 4, 5, 6, 7, 8], true, [⟨false, 4, 0, 20004, 1⟩, ⟨true, 1, 0, 30100, 1⟩], []⟩)
def r35_20 : List AOper := [oM 17 8, oM 18 4, oO 19 (.len (.tmp 18)), oO 20 (.bin .lss 3 (.tmp 17) (.tmp 19))]
def r35_25 : List AOper := [oM 23 5, oM 24 4, oM 25 8, oO 26 (.iaddr 1 none (.tmp 24) (.tmp 25)), oO 27 (.load false 1 (.tmp 26)), oO 28 (.bin .add 3 (.tmp 23) (.tmp 27)), oM 29 4, oM 30 8, oO 31 (.bin .add 3 (.tmp 30) (kI 1)), oO 32 (.iaddr 1 none (.tmp 29) (.tmp 31)), oO 33 (.load false 1 (.tmp 32)), oO 34 (.bin .add 3 (.tmp 28) (.tmp 33)), oM 35 4, oM 36 8, oO 37 (.bin .add 3 (.tmp 36) (kI 2)), oO 38 (.iaddr 1 none (.tmp 35) (.tmp 37)), oO 39 (.load false 1 (.tmp 38)), oO 40 (.bin .add 3 (.tmp 34) (.tmp 39)), oM 41 4, oM 42 8, oO 43 (.bin .add 3 (.tmp 42) (kI 3)), oO 44 (.iaddr 1 none (.tmp 41) (.tmp 43)), oO 45 (.load false 1 (.tmp 44)), oO 46 (.bin .add 3 (.tmp 40) (.tmp 45)), oM 5 46]
def r35_26 : List AOper := [oM 47 6, oM 48 4, oM 49 8, oO 50 (.iaddr 1 none (.tmp 48) (.tmp 49)), oO 51 (.load false 1 (.tmp 50)), oO 52 (.bin .add 3 (.tmp 47) (.tmp 51)), oM 53 4, oM 54 8, oO 55 (.bin .add 3 (.tmp 54) (kI 2)), oO 56 (.iaddr 1 none (.tmp 53) (.tmp 55)), oO 57 (.load false 1 (.tmp 56)), oO 58 (.bin .sub 3 (.tmp 52) (.tmp 57)), oM 59 7, oM 60 4, oM 61 8, oO 62 (.bin .add 3 (.tmp 61) (kI 1)), oO 63 (.iaddr 1 none (.tmp 60) (.tmp 62)), oO 64 (.load false 1 (.tmp 63)), oO 65 (.bin .add 3 (.tmp 59) (.tmp 64)), oM 66 4, oM 67 8, oO 68 (.bin .add 3 (.tmp 67) (kI 3)), oO 69 (.iaddr 1 none (.tmp 66) (.tmp 68)), oO 70 (.load false 1 (.tmp 69)), oO 71 (.bin .sub 3 (.tmp 65) (.tmp 70)), oM 6 58, oM 7 71]
def r35_27 : List AOper := [oM 21 8, oO 22 (.bin .add 3 (.tmp 21) (kI 4)), oM 8 22]
def r35_29 : List AOper := [oM 72 4, oO 73 (.len (.tmp 72)), oM 9 73]
def r35_31 : List AOper := [oM 74 5, oM 75 9, oO 76 (.faddr 1 (.tmp 1)), oO 77 (.load false 1 (.tmp 76)), oO 78 (.bin .mul 3 (.tmp 75) (.tmp 77)), oO 79 (.call 97 [(.tmp 74), (.tmp 78)]), oM 80 6, oM 81 9, oO 82 (.bin .quo 3 (.tmp 81) (kI 2)), oO 83 (.faddr 1 (.tmp 1)), oO 84 (.load false 1 (.tmp 83)), oO 85 (.bin .mul 3 (.tmp 82) (.tmp 84)), oO 86 (.call 97 [(.tmp 80), (.tmp 85)]), oM 87 7, oM 88 9, oO 89 (.bin .quo 3 (.tmp 88) (kI 2)), oO 90 (.faddr 1 (.tmp 1)), oO 91 (.load false 1 (.tmp 90)), oO 92 (.bin .mul 3 (.tmp 89) (.tmp 91)), oO 93 (.call 97 [(.tmp 87), (.tmp 92)]), oO 94 (.build [(cI 0), (cI 0), (cI 0), (cI 0), (cI 0), (cI 0)] [(0, 2, (.tmp 79)), (2, 2, (.tmp 86)), (4, 2, (.tmp 93))]), oD (.store 6 (.tmp 2) (.tmp 94)), oO 3 (.mv (kI 0))]
def tr35 : List (Nat × Tidy) := [tT 0 [1, 2], tT 1 [1, 2, 13], tT 2 [2, 3], tT 3 [1, 2, 4], tT 4 [1, 2, 4, 5, 6, 7], tT 5 [1, 2, 4, 5, 6, 7, 8], tT 6 [1, 2, 4, 5, 6, 7, 8, 20], tT 8 [1, 2, 4, 5, 6, 7, 8], tT 9 [1, 2, 4, 5, 6, 7, 8], tT 7 [1, 2, 4, 5, 6, 7, 8], tT 10 [1, 2, 5, 6, 7, 9], tT 11 [2, 3]]
def tl35 : List (Nat × Tidy) := [(6, ⟨[1, 2, 4, 5, 6, 7, 8], true, [⟨false, 4, 0, 20004, 1⟩, ⟨true, 1, 0, 30100, 1⟩], []⟩)]
def rs35 : List AResV := [.cell 2 true 6, .tmp 3]
def p35_0_0 : PT St := pS [sl 1 (aV false [(cPtr 1 0)]), sl 2 (aV false [(cPtr 2 0)]), sl 4 (aV false [(cRef 20004)]), sl 5 (aV false [(cD (dI .i64))]), sl 6 (aV false [(cD (dI .i64))]), sl 7 (aV false [(cD (dI .i64))]), sl 8 (aV false [(cD (dI .i64))])] [eBox 1 [(cD dL), (cD (dI .i64)), (cD (dI .i64))], eBox 2 [(cD (dI .i64)), (cD (dI .i64)), (cD (dI .i64)), (cD (dI .i64)), (cD (dI .i64)), (cD (dI .i64))], eOwn 20004 1]
def u35_0_0 {β : Type} (g : St → β) : Int → Int → Int → Int → Rows → Int → Int → Int → Int → Int → Int → Int → Int → Rows → β := p35_0_0.unc g
def p35_0_1 : PT St := pS [sl 1 (aV false [(cPtr 1 0)]), sl 2 (aV false [(cPtr 2 0)]), sl 4 (aV false [(cRef 20004)]), sl 5 (aV false [(cD (dI .i64))]), sl 6 (aV false [(cD (dI .i64))]), sl 7 (aV false [(cD (dI .i64))]), sl 8 (aV false [(cD (dI .i64))]), sl 20 (aV false [(cD dB)])] [eBox 1 [(cD dL), (cD (dI .i64)), (cD (dI .i64))], eBox 2 [(cD (dI .i64)), (cD (dI .i64)), (cD (dI .i64)), (cD (dI .i64)), (cD (dI .i64)), (cD (dI .i64))], eOwn 20004 1]
def u35_0_1 {β : Type} (g : St → β) : Int → Int → Int → Int → Bool → Rows → Int → Int → Int → Int → Int → Int → Int → Int → Rows → β := p35_0_1.unc g
def pr35_0_0 : PT (List RV) := pRs [pR true [rD (dI .i64), rD (dI .i64), rD (dI .i64), rD (dI .i64), rD (dI .i64), rD (dI .i64)], pR false [rD (dI .i64)]]
def ur35_0_0 {β : Type} (g : List RV → β) : Int → Int → Int → Int → Int → Int → Int → β := pr35_0_0.unc g
def E35_0g (vf37_0 : Tf37_0) (vf72_0 : Tf72_0) (vf97_0 : Tf97_0) : EnvK := EnvK.of [⟨37, nt37, [⟨pa37_0, Fn37_0 vf37_0⟩]⟩, ⟨72, nt72, [⟨pa72_0, Fn72_0 vf72_0⟩]⟩, ⟨97, nt97, [⟨pa97_0, Fn97_0 vf97_0⟩]⟩] noSeq
noncomputable def E35_0 : EnvK := E35_0g f37_0 f72_0 f97_0
theorem eo35_0 : E35_0.Ok Try.prog := EnvK.of_ok noSeq_ok ⟨⟨io37_0, trivial⟩, ⟨io72_0, trivial⟩, ⟨io97_0, trivial⟩, trivial⟩
noncomputable def c35_0_17g  : MCode := (.seq (.seq (.region r35_20 [] (tO [1, 2, 4, 5, 6, 7, 8, 20])) (.cond (.tmp 20) .skip (.exit 0))) (.seq (.block 1 (.seq (.region r35_25 [] (tO [1, 2, 4, 5, 6, 7, 8])) (.region r35_26 [] (tO [1, 2, 4, 5, 6, 7, 8])))) (.region r35_27 [] (tO [1, 2, 4, 5, 6, 7, 8]))))
noncomputable def c35_0_17 : MCode := c35_0_17g 
theorem g35_0_17 : c35_0_17.Good Try.prog E35_0 sh35 := ⟨⟨trivial, ⟨trivial, trivial⟩⟩, ⟨⟨trivial, trivial⟩, trivial⟩⟩
--CODE 17 0
def S35_0_0g  (α : Type) (x19 : Rows) (x6 x7 x8 x9 : Int) (kn : Int → Int → Int → Int → Option α) (k1 : Int → Int → Int → Int → Bool → Option α) : Option α :=
 cK (decide (x9 < ((List.length x19 : Nat) : Int)))
 (ixK x19 x9 1
 (ldK x19 (Int.toNat x9) 0 [.int .i64]
 (fun x21 => ixK x19 (w64 (x9 + 1)) 1
 (ldK x19 (Int.toNat (w64 (x9 + 1))) 0 [.int .i64]
 (fun x22 => ixK x19 (w64 (x9 + 2)) 1
 (ldK x19 (Int.toNat (w64 (x9 + 2))) 0 [.int .i64]
 (fun x23 => ixK x19 (w64 (x9 + 3)) 1
 (ldK x19 (Int.toNat (w64 (x9 + 3))) 0 [.int .i64]
 (fun x24 => ixK x19 x9 1
 (ldK x19 (Int.toNat x9) 0 [.int .i64]
 (fun x25 => ixK x19 (w64 (x9 + 2)) 1
 (ldK x19 (Int.toNat (w64 (x9 + 2))) 0 [.int .i64]
 (fun x26 => ixK x19 (w64 (x9 + 1)) 1
 (ldK x19 (Int.toNat (w64 (x9 + 1))) 0 [.int .i64]
 (fun x27 => ixK x19 (w64 (x9 + 3)) 1
 (ldK x19 (Int.toNat (w64 (x9 + 3))) 0 [.int .i64]
 (fun x28 => kn (w64 ((w64 ((w64 ((w64 (x6 + x21)) + x22)) + x23)) + x24)) (w64 ((w64 (x7 + x25)) - x26)) (w64 ((w64 (x8 + x27)) - x28)) (w64 (x9 + 4)))))))))))))))))))
 (k1 x6 x7 x8 x9 (decide (x9 < ((List.length x19 : Nat) : Int))))
noncomputable def S35_0_0 (α : Type) (x19 : Rows) (x6 x7 x8 x9 : Int) (kn : Int → Int → Int → Int → Option α) (k1 : Int → Int → Int → Int → Bool → Option α) : Option α := S35_0_0g  α x19 x6 x7 x8 x9 kn k1
noncomputable def R35_0_0 (α : Type) (x19 : Rows) (k1 : Int → Int → Int → Int → Bool → Option α) : Nat → Int → Int → Int → Int → Option α
 | 0, _, _, _, _ => none
 | n + 1, x6, x7, x8, x9 => S35_0_0 α x19 x6 x7 x8 x9 (R35_0_0 α x19 k1 n) k1
noncomputable def L35_0_0 (α : Type) (x19 : Rows) (k1 : Int → Int → Int → Int → Bool → Option α) (x6 x7 x8 x9 : Int) : Option α := R35_0_0 α x19 k1 fuel x6 x7 x8 x9
abbrev TL35_0_0 : Type 1 := (α : Type) → Rows → (Int → Int → Int → Int → Bool → Option α) → Int → Int → Int → Int → Option α
def F35_0_0 (v : TL35_0_0) (α : Type) (K : Exit → St → Option α) : Int → Int → Int → Int → Rows → Int → Int → Int → Int → Int → Int → Int → Int → Rows → Option α := fun x6 x7 x8 x9 x10 x11 x12 x13 x14 x15 x16 x17 x18 x19 => v α x19 (fun (y1 : Int) (y2 : Int) (y3 : Int) (y4 : Int) (y5 : Bool) => u35_0_1 (K (.exit 0)) y1 y2 y3 y4 y5 x10 x11 x12 x13 x14 x15 x16 x17 x18 x19) x6 x7 x8 x9
theorem r35_0_0g (vf37_0 : Tf37_0) (vf72_0 : Tf72_0) (vf97_0 : Tf97_0)  (α : Type) (K : Exit → St → Option α) (Kn : St → Option α) (x6 x7 x8 x9 : Int) (x10 : Rows) (x11 x12 x13 x14 x15 x16 x17 x18 : Int) (x19 : Rows) : u35_0_0 (fun σ => runM Try.prog (E35_0g vf37_0 vf72_0 vf97_0) sh35 (c35_0_17g ) (thenK (fun σ => tidyK td35_17 σ Kn) K) σ) x6 x7 x8 x9 x10 x11 x12 x13 x14 x15 x16 x17 x18 x19 = S35_0_0g  α x19 x6 x7 x8 x9 (fun x6 x7 x8 x9 => u35_0_0 Kn x6 x7 x8 x9 x10 x11 x12 x13 x14 x15 x16 x17 x18 x19) (fun (y1 : Int) (y2 : Int) (y3 : Int) (y4 : Int) (y5 : Bool) => u35_0_1 (K (.exit 0)) y1 y2 y3 y4 y5 x10 x11 x12 x13 x14 x15 x16 x17 x18 x19) := by kernel_rfl
theorem r35_0_0 (α : Type) (K : Exit → St → Option α) (Kn : St → Option α) (x6 x7 x8 x9 : Int) (x10 : Rows) (x11 x12 x13 x14 x15 x16 x17 x18 : Int) (x19 : Rows) : u35_0_0 (fun σ => runM Try.prog E35_0 sh35 c35_0_17 (thenK (fun σ => tidyK td35_17 σ Kn) K) σ) x6 x7 x8 x9 x10 x11 x12 x13 x14 x15 x16 x17 x18 x19 = S35_0_0 α x19 x6 x7 x8 x9 (fun x6 x7 x8 x9 => u35_0_0 Kn x6 x7 x8 x9 x10 x11 x12 x13 x14 x15 x16 x17 x18 x19) (fun (y1 : Int) (y2 : Int) (y3 : Int) (y4 : Int) (y5 : Bool) => u35_0_1 (K (.exit 0)) y1 y2 y3 y4 y5 x10 x11 x12 x13 x14 x15 x16 x17 x18 x19) := r35_0_0g f37_0 f72_0 f97_0 α K Kn x6 x7 x8 x9 x10 x11 x12 x13 x14 x15 x16 x17 x18 x19
theorem t35_0_0 (α : Type) (K : Exit → St → Option α) : ∀ (n : Nat) (x6 x7 x8 x9 : Int) (x10 : Rows) (x11 x12 x13 x14 x15 x16 x17 x18 : Int) (x19 : Rows), R35_0_0 α x19 (fun (y1 : Int) (y2 : Int) (y3 : Int) (y4 : Int) (y5 : Bool) => u35_0_1 (K (.exit 0)) y1 y2 y3 y4 y5 x10 x11 x12 x13 x14 x15 x16 x17 x18 x19) n x6 x7 x8 x9 = u35_0_0 (loopT (runM Try.prog E35_0 sh35 c35_0_17) td35_17 K n) x6 x7 x8 x9 x10 x11 x12 x13 x14 x15 x16 x17 x18 x19 := by
 intro n
 induction n with
 | zero => intros; rfl
 | succ n ih => intro x6 x7 x8 x9 x10 x11 x12 x13 x14 x15 x16 x17 x18 x19; exact (congrArg (fun kn => S35_0_0 α x19 x6 x7 x8 x9 kn (fun (y1 : Int) (y2 : Int) (y3 : Int) (y4 : Int) (y5 : Bool) => u35_0_1 (K (.exit 0)) y1 y2 y3 y4 y5 x10 x11 x12 x13 x14 x15 x16 x17 x18 x19)) (funext fun x6 => funext fun x7 => funext fun x8 => funext fun x9 => ih x6 x7 x8 x9 x10 x11 x12 x13 x14 x15 x16 x17 x18 x19)).trans (r35_0_0 α K (loopT (runM Try.prog E35_0 sh35 c35_0_17) td35_17 K n) x6 x7 x8 x9 x10 x11 x12 x13 x14 x15 x16 x17 x18 x19).symm
theorem m35_0_0 : ∀ (α : Type) (K : Exit → St → Option α), F35_0_0 L35_0_0 α K = p35_0_0.unc fun σ => loopT (runM Try.prog E35_0 sh35 c35_0_17) td35_17 K fuel σ := fun α K => funext fun x6 => funext fun x7 => funext fun x8 => funext fun x9 => funext fun x10 => funext fun x11 => funext fun x12 => funext fun x13 => funext fun x14 => funext fun x15 => funext fun x16 => funext fun x17 => funext fun x18 => funext fun x19 => t35_0_0 α K fuel x6 x7 x8 x9 x10 x11 x12 x13 x14 x15 x16 x17 x18 x19
abbrev Tf35_0 : Type 1 := (α : Type) → Rows → Int → Int → (Int → Int → Int → Int → Int → Int → Int → Option α) → Option α
def f35_0g (vL35_0_0 : TL35_0_0) (vf37_0 : Tf37_0) (vf72_0 : Tf72_0) (vf97_0 : Tf97_0) (α : Type) (x1 : Rows) (x2 x3 : Int) (k1 : Int → Int → Int → Int → Int → Int → Int → Option α) : Option α :=
 vf37_0 α x1 x2 x3
 (fun x4 => cK (decide (0 < ((List.length x4 : Nat) : Int)))
 (k1 0 0 0 0 0 0 16)
 (vf72_0 α x1 x2 x3
 (fun x5 => vL35_0_0 α x5
 (fun x29 x30 x31 x32 x33 => vf97_0 α x29 (w64 (((List.length x5 : Nat) : Int) * x2))
 (fun x35 x36 => vf97_0 α x30 (w64 ((w64 (Int.tdiv ((List.length x5 : Nat) : Int) 2)) * x2))
 (fun x37 x38 => vf97_0 α x31 (w64 ((w64 (Int.tdiv ((List.length x5 : Nat) : Int) 2)) * x2))
 (fun x39 x40 => k1 x35 x36 x37 x38 x39 x40 0)))) 0 0 0 0)))
noncomputable def f35_0 (α : Type) (x1 : Rows) (x2 x3 : Int) (k1 : Int → Int → Int → Int → Int → Int → Int → Option α) : Option α := f35_0g L35_0_0 f37_0 f72_0 f97_0 α x1 x2 x3 k1
def pa35_0 : PT (List DV) := pA [pV true [dL, (dI .i64), (dI .i64)]]
def Fn35_0 (v : Tf35_0) (α : Type) (k : List RV → Option α) : Rows → Int → Int → Option α := fun x1 x2 x3 => v α x1 x2 x3 (fun (y1 : Int) (y2 : Int) (y3 : Int) (y4 : Int) (y5 : Int) (y6 : Int) (y7 : Int) => ur35_0_0 k y1 y2 y3 y4 y5 y6 y7)
noncomputable def cm35_0g (vL35_0_0 : TL35_0_0) : MCode := (.seq (.region r35_2 [] (tO [1, 2])) (.seq (.seq (.region r35_5 [] (tO [1, 2, 13])) (.cond (.tmp 13) (.seq (.region r35_8 [] (tO [2, 3])) .ret) .skip)) (.seq (.region r35_10 [] (tO [1, 2, 4])) (.seq (.region r35_12 [] (tO [1, 2, 4, 5, 6, 7])) (.seq (.seq (.region r35_15 [] (tO [1, 2, 4, 5, 6, 7, 8])) (.block 0 (.loop td35_17 [⟨p35_0_0, F35_0_0 vL35_0_0⟩] c35_0_17))) (.seq (.region r35_29 [] (tO [1, 2, 5, 6, 7, 9])) (.seq (.region r35_31 [(5, 10), (5, 17), (12, 17)] (tO [2, 3])) .ret)))))))
noncomputable def cm35_0 : MCode := cm35_0g L35_0_0
theorem gm35_0 : cm35_0.Good Try.prog E35_0 sh35 := ⟨trivial, ⟨⟨trivial, ⟨⟨trivial, trivial⟩, trivial⟩⟩, ⟨trivial, ⟨trivial, ⟨⟨trivial, ⟨g35_0_17, m35_0_0, trivial⟩⟩, ⟨trivial, ⟨trivial, trivial⟩⟩⟩⟩⟩⟩⟩
theorem fm35_0g (vf37_0 : Tf37_0) (vf72_0 : Tf72_0) (vf97_0 : Tf97_0) (vL35_0_0 : TL35_0_0) (α : Type) (k : List RV → Option α) : Fn35_0 (f35_0g vL35_0_0 vf37_0 vf72_0 vf97_0) α k = pa35_0.unc fun ds => fnM Try.prog (E35_0g vf37_0 vf72_0 vf97_0) sh35 (cm35_0g vL35_0_0) rs35 k ds := by kernel_rfl
theorem fm35_0 : ∀ (α : Type) (k : List RV → Option α), Fn35_0 f35_0 α k = pa35_0.unc fun ds => fnM Try.prog E35_0 sh35 cm35_0 rs35 k ds := fm35_0g f37_0 f72_0 f97_0 L35_0_0
theorem is35 : FnIs Try.prog 35 nt35 tr35 tl35 cm35_0.erase rs35 := ⟨Try.f35, Try.func35, rfl, by kernel_rfl, by kernel_rfl, by kernel_rfl⟩
theorem io35_0 : InstOk Try.prog 35 nt35 ⟨pa35_0, Fn35_0 f35_0⟩ := inst_ok eo35_0 followsTry is35 ⟨⟨sh35, cm35_0, by kernel_rfl, gm35_0, fm35_0⟩⟩
abbrev nt67 : Nat := 67
def sh67 : List (Nat × List Sh) := [(12, [.sl]), (26, [.int .i64]), (31, [.int .i64]), (37, [.int .i64]), (39, [.int .i64]), (42, [.sl]), (47, [.flt .f32]), (48, [.flt .f32]), (60, [.sl]), (66, [.sl, .int .i64, .int .i64])]
def r67_2 : List AOper := [oO 1 (.box (.tmp 0)), oO 2 (.alloc [.nils, (cI 0), (cI 0)]), oO 3 (.mv (kI 0)), oO 4 (.mv (kI 0))]
def r67_5 : List AOper := [oO 11 (.faddr 0 (.tmp 1)), oO 12 (.load false 1 (.tmp 11)), oO 13 (.len (.tmp 12)), oM 5 13]
def r67_8 : List AOper := [oM 15 5, oO 16 (.bin .rem 3 (.tmp 15) (kI 4)), oO 17 (.bin .neq 3 (.tmp 16) (kI 0)), oM 18 17, oG 19 (.mv (.tmp 5)) 18 false, oG 20 (.call 98 [(.tmp 19), (kI 4), (kI 64)]) 18 false, oG 21 (.pure (oB (.unOp .not 4 (.tmp 20)) 4)) 18 false, oO 22 (.pick (.tmp 18) (.const (.bool true)) (.tmp 21)), oM 14 22]
def r67_11 : List AOper := [oO 23 (.build [.nils, (cI 0), (cI 0)] []), oD (.store 3 (.tmp 2) (.tmp 23)), oO 3 (.mv (kI 0)), oO 4 (.mv (kI 12))]
def r67_13 : List AOper := [oO 25 (.faddr 1 (.tmp 1)), oO 26 (.load false 1 (.tmp 25)), oO 27 (.call 98 [(.tmp 26), (kI 0), (kI 65535)]), oO 28 (.pure (oB (.unOp .not 4 (.tmp 27)) 4)), oM 29 28, oG 30 (.faddr 2 (.tmp 1)) 29 false, oG 31 (.load false 1 (.tmp 30)) 29 false, oG 32 (.call 98 [(.tmp 31), (kI 1), (kI 65536)]) 29 false, oG 33 (.pure (oB (.unOp .not 4 (.tmp 32)) 4)) 29 false, oO 34 (.pick (.tmp 29) (.const (.bool true)) (.tmp 33)), oM 24 34]
def r67_16 : List AOper := [oO 35 (.build [.nils, (cI 0), (cI 0)] []), oD (.store 3 (.tmp 2) (.tmp 35)), oO 3 (.mv (kI 0)), oO 4 (.mv (kI 2))]
def r67_18 : List AOper := [oO 36 (.faddr 1 (.tmp 1)), oO 37 (.load false 1 (.tmp 36)), oO 38 (.faddr 2 (.tmp 1)), oO 39 (.load false 1 (.tmp 38)), oO 40 (.build [.nils, (cI 0), (cI 0)] [(1, 1, (.tmp 37)), (2, 1, (.tmp 39))]), oO 6 (.alloc [.nils, (cI 0), (cI 0)]), oD (.store 3 (.tmp 6) (.tmp 40))]
def r67_21 : List AOper := [oO 41 (.faddr 0 (.tmp 1)), oO 42 (.load false 1 (.tmp 41)), oO 43 (.len (.tmp 42)), oO 44 (.mv (kI 0))]
def td67_23 : Option Tidy := (some ⟨[2, 6, 42, 43, 44], true, [⟨false, 42, 0, 20042, 1⟩, ⟨true, 1, 0, 30100, 1⟩, ⟨true, 2, 0, 30200, 1⟩, ⟨true, 6, 0, 30600, 1⟩], []⟩)
def r67_25 : List AOper := [oO 45 (.bin .lss 3 (.tmp 44) (.tmp 43))]
def r67_31 : List AOper := [oM 46 44, oO 47 (.iaddr 1 none (.tmp 42) (.tmp 44)), oO 48 (.load false 1 (.tmp 47)), oM 7 46, oM 8 48]
def r67_33 : List AOper := [oM 50 8, oO 51 (.call 118 [(.tmp 50), (kI 0), (kI 65535)]), oM 49 51, oO 52 (.extract 0 (.tmp 49)), oO 53 (.extract 1 (.tmp 49)), oM 9 52, oM 10 53]
def r67_36 : List AOper := [oM 54 10, oO 55 (.bin .neq 28 (.tmp 54) (kI 0))]
def r67_39 : List AOper := [oO 56 (.build [.nils, (cI 0), (cI 0)] []), oM 57 7, oM 58 10, oD (.store 3 (.tmp 2) (.tmp 56)), oM 3 57, oM 4 58]
def r67_40 : List AOper := [oO 59 (.faddr 0 (.tmp 6)), oO 60 (.load false 1 (.tmp 59)), oM 61 9, oO 62 (.bslice 1 1 [(.v (.int .i64 0))] [(0, (.tmp 61))]), oO 63 (.append 1 8 (.tmp 60) (.tmp 62)), oO 64 (.faddr 0 (.tmp 6)), oD (.store 1 (.tmp 64) (.tmp 63))]
def r67_41 : List AOper := [oO 65 (.bin .add 3 (.tmp 44) (kI 1)), oM 44 65]
def r67_43 : List AOper := [oO 66 (.load true 3 (.tmp 6)), oD (.store 3 (.tmp 2) (.tmp 66)), oO 3 (.mv (kI 0)), oO 4 (.mv (kI 0))]
def tr67 : List (Nat × Tidy) := [(0, ⟨[1, 2], true, [⟨true, 2, 0, 30200, 1⟩], []⟩), (1, ⟨[1, 2, 5], true, [⟨true, 2, 0, 30200, 1⟩], []⟩), (2, ⟨[1, 2, 14], true, [⟨true, 2, 0, 30200, 1⟩], []⟩), (3, ⟨[2, 3, 4], true, [⟨true, 2, 0, 30200, 1⟩], []⟩), (4, ⟨[1, 2, 24], true, [⟨true, 2, 0, 30200, 1⟩], []⟩), (5, ⟨[2, 3, 4], true, [⟨true, 2, 0, 30200, 1⟩], []⟩), (6, ⟨[1, 2, 6], true, [⟨true, 2, 0, 30200, 1⟩], []⟩), (7, ⟨[2, 6, 42, 43, 44], true, [⟨true, 2, 0, 30200, 1⟩], []⟩), (8, ⟨[2, 6, 42, 43, 44, 45], true, [⟨true, 2, 0, 30200, 1⟩], []⟩), (9, ⟨[2, 6, 7, 8, 42, 43, 44], true, [⟨true, 2, 0, 30200, 1⟩], []⟩), (10, ⟨[2, 6, 7, 9, 10, 42, 43, 44], true, [⟨true, 2, 0, 30200, 1⟩], []⟩), (11, ⟨[2, 6, 7, 9, 10, 42, 43, 44, 55], true, [⟨true, 2, 0, 30200, 1⟩], []⟩), (12, ⟨[2, 3, 4], true, [⟨true, 2, 0, 30200, 1⟩], []⟩), (13, ⟨[2, 6, 42, 43, 44], true, [⟨true, 2, 0, 30200, 1⟩], []⟩), (14, ⟨[2, 6, 42, 43, 44], true, [⟨true, 2, 0, 30200, 1⟩], []⟩), (15, ⟨[2, 3, 4], true, [⟨true, 2, 0, 30200, 1⟩], []⟩)]
def tl67 : List (Nat × Tidy) := [(8, ⟨[2, 6, 42, 43, 44], true, [⟨false, 42, 0, 20042, 1⟩, ⟨true, 1, 0, 30100, 1⟩, ⟨true, 2, 0, 30200, 1⟩, ⟨true, 6, 0, 30600, 1⟩], []⟩)]
def rs67 : List AResV := [.cell 2 true 3, .tmp 3, .tmp 4]
def p67_0_0 : PT St := pS [sl 1 (aV false [(cPtr 1 0)]), sl 2 (aV false [(cPtr 2 0)]), sl 5 (aV false [(cD (dI .i64))])] [eBox 1 [(cD dL), (cD (dI .i64)), (cD (dI .i64))], eBox 2 [(cRef 30200), (cD (dI .i64)), (cD (dI .i64))], eOwn 30200 1]
def u67_0_0 {β : Type} (g : St → β) : Int → Rows → Int → Int → Int → Int → Rows → β := p67_0_0.unc g
def p67_0_1 : PT St := pS [sl 1 (aV false [(cPtr 1 0)]), sl 2 (aV false [(cPtr 2 0)]), sl 14 (aV false [(cD dB)])] [eBox 1 [(cD dL), (cD (dI .i64)), (cD (dI .i64))], eBox 2 [(cRef 30200), (cD (dI .i64)), (cD (dI .i64))], eOwn 30200 1]
def u67_0_1 {β : Type} (g : St → β) : Bool → Rows → Int → Int → Int → Int → Rows → β := p67_0_1.unc g
def p67_0_2 : PT St := pS [sl 2 (aV false [(cPtr 2 0)]), sl 6 (aV false [(cPtr 6 0)]), sl 42 (aV false [(cD dL)]), sl 43 (aV false [(cD (dI .i64))]), sl 44 (aV false [(cD (dI .i64))])] [eBox 2 [(cRef 30200), (cD (dI .i64)), (cD (dI .i64))], eOwn 30200 1, eBox 6 [(cRef 30600), (cD (dI .i64)), (cD (dI .i64))], eOwn 30600 1]
def u67_0_2 {β : Type} (g : St → β) : Rows → Int → Int → Int → Int → Rows → Int → Int → Rows → β := p67_0_2.unc g
def p67_0_3 : PT St := pS [sl 2 (aV false [(cPtr 2 0)]), sl 3 (aV false [(cD (dI .i64))]), sl 4 (aV false [(cD (dI .i64))])] [eBox 2 [(cRef 30200), (cD (dI .i64)), (cD (dI .i64))], eOwn 30200 1]
def u67_0_3 {β : Type} (g : St → β) : Int → Int → Int → Int → Rows → β := p67_0_3.unc g
def p67_0_4 : PT St := pS [sl 2 (aV false [(cPtr 2 0)]), sl 6 (aV false [(cPtr 6 0)]), sl 42 (aV false [(cD dL)]), sl 43 (aV false [(cD (dI .i64))]), sl 44 (aV false [(cD (dI .i64))]), sl 45 (aV false [(cD dB)])] [eBox 2 [(cRef 30200), (cD (dI .i64)), (cD (dI .i64))], eOwn 30200 1, eBox 6 [(cRef 30600), (cD (dI .i64)), (cD (dI .i64))], eOwn 30600 1]
def u67_0_4 {β : Type} (g : St → β) : Rows → Int → Int → Bool → Int → Int → Rows → Int → Int → Rows → β := p67_0_4.unc g
def pr67_0_0 : PT (List RV) := pRs [pR true [rO 1, rD (dI .i64), rD (dI .i64)], pR false [rD (dI .i64)], pR false [rD (dI .i64)]]
def ur67_0_0 {β : Type} (g : List RV → β) : Rows → Int → Int → Int → Int → β := pr67_0_0.unc g
def E67_0g (vf98_0 : Tf98_0) (vf118_0 : Tf118_0) : EnvK := EnvK.of [⟨98, nt98, [⟨pa98_0, Fn98_0 vf98_0⟩]⟩, ⟨118, nt118, [⟨pa118_0, Fn118_0 vf118_0⟩]⟩] noSeq
noncomputable def E67_0 : EnvK := E67_0g f98_0 f118_0
theorem eo67_0 : E67_0.Ok Try.prog := EnvK.of_ok noSeq_ok ⟨⟨io98_0, trivial⟩, ⟨io118_0, trivial⟩, trivial⟩
noncomputable def c67_0_23g  : MCode := (.seq (.region r67_25 [] (some ⟨[2, 6, 42, 43, 44, 45], true, [⟨true, 2, 0, 30200, 1⟩], []⟩)) (.seq (.cond (.tmp 45) .skip (.exit 1)) (.seq (.block 2 (.seq (.region r67_31 [] (some ⟨[2, 6, 7, 8, 42, 43, 44], true, [⟨true, 2, 0, 30200, 1⟩], []⟩)) (.seq (.region r67_33 [] (some ⟨[2, 6, 7, 9, 10, 42, 43, 44], true, [⟨true, 2, 0, 30200, 1⟩], []⟩)) (.seq (.seq (.region r67_36 [] (some ⟨[2, 6, 7, 9, 10, 42, 43, 44, 55], true, [⟨true, 2, 0, 30200, 1⟩], []⟩)) (.cond (.tmp 55) (.seq (.region r67_39 [] (some ⟨[2, 3, 4], true, [⟨true, 2, 0, 30200, 1⟩], []⟩)) .ret) .skip)) (.region r67_40 [] (some ⟨[2, 6, 42, 43, 44], true, [⟨true, 2, 0, 30200, 1⟩], []⟩)))))) (.region r67_41 [] (some ⟨[2, 6, 42, 43, 44], true, [⟨true, 2, 0, 30200, 1⟩], []⟩)))))
noncomputable def c67_0_23 : MCode := c67_0_23g 
theorem g67_0_23 : c67_0_23.Good Try.prog E67_0 sh67 := ⟨trivial, ⟨⟨trivial, trivial⟩, ⟨⟨trivial, ⟨trivial, ⟨⟨trivial, ⟨⟨trivial, trivial⟩, trivial⟩⟩, trivial⟩⟩⟩, trivial⟩⟩⟩
--CODE 23 0
def S67_0_1g (vf118_0 : Tf118_0) (α : Type) (x17 : Rows) (x18 x19 : Int) (x25 : Rows) (kn : Int → Rows → Option α) (k1 : Int → Int → Option α) (k2 : Int → Bool → Rows → Option α) : Option α :=
 cK (decide (x19 < x18))
 (rowK x17 x19 [.flt .f32]
 (fun x27 => vf118_0 α x27 0 65535
 (fun x28 x29 => cK (x29 != 0)
 (k1 x19 x29)
 (gK (apOk 1 8 x25 [[DC.v (.int .i64 x28)]]) (kn (w64 (x19 + 1)) (x25 ++ [[DC.v (.int .i64 x28)]]))))))
 (k2 x19 (decide (x19 < x18)) x25)
noncomputable def S67_0_1 (α : Type) (x17 : Rows) (x18 x19 : Int) (x25 : Rows) (kn : Int → Rows → Option α) (k1 : Int → Int → Option α) (k2 : Int → Bool → Rows → Option α) : Option α := S67_0_1g f118_0 α x17 x18 x19 x25 kn k1 k2
noncomputable def R67_0_1 (α : Type) (x17 : Rows) (x18 : Int) (k1 : Int → Int → Option α) (k2 : Int → Bool → Rows → Option α) : Nat → Int → Rows → Option α
 | 0, _, _ => none
 | n + 1, x19, x25 => S67_0_1 α x17 x18 x19 x25 (R67_0_1 α x17 x18 k1 k2 n) k1 k2
noncomputable def L67_0_1 (α : Type) (x17 : Rows) (x18 : Int) (k1 : Int → Int → Option α) (k2 : Int → Bool → Rows → Option α) (x19 : Int) (x25 : Rows) : Option α := R67_0_1 α x17 x18 k1 k2 fuel x19 x25
abbrev TL67_0_1 : Type 1 := (α : Type) → Rows → Int → (Int → Int → Option α) → (Int → Bool → Rows → Option α) → Int → Rows → Option α
def F67_0_1 (v : TL67_0_1) (α : Type) (K : Exit → St → Option α) : Rows → Int → Int → Int → Int → Rows → Int → Int → Rows → Option α := fun x17 x18 x19 x20 x21 x22 x23 x24 x25 => v α x17 x18 (fun (y1 : Int) (y2 : Int) => u67_0_3 (K .ret) y1 y2 0 0 ([] : Rows)) (fun (y1 : Int) (y2 : Bool) (y3 : Rows) => u67_0_4 (K (.exit 1)) x17 x18 y1 y2 x20 x21 x22 x23 x24 y3) x19 x25
theorem r67_0_1g (vf98_0 : Tf98_0) (vf118_0 : Tf118_0)  (α : Type) (K : Exit → St → Option α) (Kn : St → Option α) (x17 : Rows) (x18 x19 x20 x21 : Int) (x22 : Rows) (x23 x24 : Int) (x25 : Rows) : u67_0_2 (fun σ => runM Try.prog (E67_0g vf98_0 vf118_0) sh67 (c67_0_23g ) (thenK (fun σ => tidyK td67_23 σ Kn) K) σ) x17 x18 x19 x20 x21 x22 x23 x24 x25 = S67_0_1g vf118_0 α x17 x18 x19 x25 (fun x19 x25 => u67_0_2 Kn x17 x18 x19 x20 x21 x22 x23 x24 x25) (fun (y1 : Int) (y2 : Int) => u67_0_3 (K .ret) y1 y2 0 0 ([] : Rows)) (fun (y1 : Int) (y2 : Bool) (y3 : Rows) => u67_0_4 (K (.exit 1)) x17 x18 y1 y2 x20 x21 x22 x23 x24 y3) := by kernel_rfl
theorem r67_0_1 (α : Type) (K : Exit → St → Option α) (Kn : St → Option α) (x17 : Rows) (x18 x19 x20 x21 : Int) (x22 : Rows) (x23 x24 : Int) (x25 : Rows) : u67_0_2 (fun σ => runM Try.prog E67_0 sh67 c67_0_23 (thenK (fun σ => tidyK td67_23 σ Kn) K) σ) x17 x18 x19 x20 x21 x22 x23 x24 x25 = S67_0_1 α x17 x18 x19 x25 (fun x19 x25 => u67_0_2 Kn x17 x18 x19 x20 x21 x22 x23 x24 x25) (fun (y1 : Int) (y2 : Int) => u67_0_3 (K .ret) y1 y2 0 0 ([] : Rows)) (fun (y1 : Int) (y2 : Bool) (y3 : Rows) => u67_0_4 (K (.exit 1)) x17 x18 y1 y2 x20 x21 x22 x23 x24 y3) := r67_0_1g f98_0 f118_0 α K Kn x17 x18 x19 x20 x21 x22 x23 x24 x25
theorem t67_0_1 (α : Type) (K : Exit → St → Option α) : ∀ (n : Nat) (x17 : Rows) (x18 x19 x20 x21 : Int) (x22 : Rows) (x23 x24 : Int) (x25 : Rows), R67_0_1 α x17 x18 (fun (y1 : Int) (y2 : Int) => u67_0_3 (K .ret) y1 y2 0 0 ([] : Rows)) (fun (y1 : Int) (y2 : Bool) (y3 : Rows) => u67_0_4 (K (.exit 1)) x17 x18 y1 y2 x20 x21 x22 x23 x24 y3) n x19 x25 = u67_0_2 (loopT (runM Try.prog E67_0 sh67 c67_0_23) td67_23 K n) x17 x18 x19 x20 x21 x22 x23 x24 x25 := by
 intro n
 induction n with
 | zero => intros; rfl
 | succ n ih => intro x17 x18 x19 x20 x21 x22 x23 x24 x25; exact (congrArg (fun kn => S67_0_1 α x17 x18 x19 x25 kn (fun (y1 : Int) (y2 : Int) => u67_0_3 (K .ret) y1 y2 0 0 ([] : Rows)) (fun (y1 : Int) (y2 : Bool) (y3 : Rows) => u67_0_4 (K (.exit 1)) x17 x18 y1 y2 x20 x21 x22 x23 x24 y3)) (funext fun x19 => funext fun x25 => ih x17 x18 x19 x20 x21 x22 x23 x24 x25)).trans (r67_0_1 α K (loopT (runM Try.prog E67_0 sh67 c67_0_23) td67_23 K n) x17 x18 x19 x20 x21 x22 x23 x24 x25).symm
theorem m67_0_1 : ∀ (α : Type) (K : Exit → St → Option α), F67_0_1 L67_0_1 α K = p67_0_2.unc fun σ => loopT (runM Try.prog E67_0 sh67 c67_0_23) td67_23 K fuel σ := fun α K => funext fun x17 => funext fun x18 => funext fun x19 => funext fun x20 => funext fun x21 => funext fun x22 => funext fun x23 => funext fun x24 => funext fun x25 => t67_0_1 α K fuel x17 x18 x19 x20 x21 x22 x23 x24 x25
noncomputable def c67_0_7g  : MCode := (.region r67_8 [] (some ⟨[1, 2, 14], true, [⟨true, 2, 0, 30200, 1⟩], []⟩))
noncomputable def c67_0_7 : MCode := c67_0_7g 
theorem g67_0_7 : c67_0_7.Good Try.prog E67_0 sh67 := trivial
--CODE 7 0
abbrev TJ67_0_0 : Type 1 := (α : Type) → Int → (Bool → Option α) → Option α
def J67_0_0g (vf98_0 : Tf98_0) (α : Type) (x4 : Int) (k1 : Bool → Option α) : Option α :=
 cK ((Int.tmod x4 4) != 0)
 (k1 true)
 (vf98_0 α x4 4 64
 (fun x12 => k1 (!x12)))
noncomputable def J67_0_0 (α : Type) (x4 : Int) (k1 : Bool → Option α) : Option α := J67_0_0g f98_0 α x4 k1
def F67_0_0 (v : TJ67_0_0) (α : Type) (K : Exit → St → Option α) : Int → Rows → Int → Int → Int → Int → Rows → Option α := fun x4 x5 x6 x7 x8 x9 x10 => v α x4 (fun (y1 : Bool) => u67_0_1 (K .normal) y1 x5 x6 x7 x8 x9 x10) 
theorem m67_0_0g (vf98_0 : Tf98_0) (vf118_0 : Tf118_0)  (α : Type) (K : Exit → St → Option α) : F67_0_0 (J67_0_0g vf98_0) α K = p67_0_0.unc fun σ => runM Try.prog (E67_0g vf98_0 vf118_0) sh67 (c67_0_7g ) K σ := by kernel_rfl
theorem m67_0_0 : ∀ (α : Type) (K : Exit → St → Option α), F67_0_0 J67_0_0 α K = p67_0_0.unc fun σ => runM Try.prog E67_0 sh67 c67_0_7 K σ := m67_0_0g f98_0 f118_0
abbrev Tf67_0 : Type 1 := (α : Type) → Rows → Int → Int → (Rows → Int → Int → Int → Int → Option α) → Option α
def f67_0g (vJ67_0_0 : TJ67_0_0) (vL67_0_1 : TL67_0_1) (vf98_0 : Tf98_0) (α : Type) (x1 : Rows) (x2 x3 : Int) (k1 : Rows → Int → Int → Int → Int → Option α) : Option α :=
 vJ67_0_0 α ((List.length x1 : Nat) : Int)
 (fun x13 => cK x13
 (k1 ([] : Rows) 0 0 0 12)
 (vf98_0 α x2 0 65535
 (fun x15 => cK (!x15)
 (k1 ([] : Rows) 0 0 0 2)
 (vf98_0 α x3 1 65536
 (fun x16 => cK (!x16)
 (k1 ([] : Rows) 0 0 0 2)
 (vL67_0_1 α x1 ((List.length x1 : Nat) : Int)
 (fun x30 x31 => k1 ([] : Rows) 0 0 x30 x31)
 (fun x32 x33 x34 => k1 x34 x2 x3 0 0) 0 ([] : Rows)))))))
noncomputable def f67_0 (α : Type) (x1 : Rows) (x2 x3 : Int) (k1 : Rows → Int → Int → Int → Int → Option α) : Option α := f67_0g J67_0_0 L67_0_1 f98_0 α x1 x2 x3 k1
def pa67_0 : PT (List DV) := pA [pV true [dL, (dI .i64), (dI .i64)]]
def Fn67_0 (v : Tf67_0) (α : Type) (k : List RV → Option α) : Rows → Int → Int → Option α := fun x1 x2 x3 => v α x1 x2 x3 (fun (y1 : Rows) (y2 : Int) (y3 : Int) (y4 : Int) (y5 : Int) => ur67_0_0 k y1 y2 y3 y4 y5)
noncomputable def cm67_0g (vJ67_0_0 : TJ67_0_0) (vL67_0_1 : TL67_0_1) : MCode := (.seq (.region r67_2 [] (some ⟨[1, 2], true, [⟨true, 2, 0, 30200, 1⟩], []⟩)) (.seq (.seq (.region r67_5 [] (some ⟨[1, 2, 5], true, [⟨true, 2, 0, 30200, 1⟩], []⟩)) (.block 0 (.seq (.mark [⟨p67_0_0, F67_0_0 vJ67_0_0⟩] c67_0_7) (.cond (.tmp 14) (.seq (.region r67_11 [] (some ⟨[2, 3, 4], true, [⟨true, 2, 0, 30200, 1⟩], []⟩)) .ret) (.seq (.region r67_13 [] (some ⟨[1, 2, 24], true, [⟨true, 2, 0, 30200, 1⟩], []⟩)) (.cond (.tmp 24) (.seq (.region r67_16 [] (some ⟨[2, 3, 4], true, [⟨true, 2, 0, 30200, 1⟩], []⟩)) .ret) .skip)))))) (.seq (.region r67_18 [] (some ⟨[1, 2, 6], true, [⟨true, 2, 0, 30200, 1⟩], []⟩)) (.seq (.seq (.region r67_21 [] (some ⟨[2, 6, 42, 43, 44], true, [⟨true, 2, 0, 30200, 1⟩], []⟩)) (.block 1 (.loop td67_23 [⟨p67_0_2, F67_0_1 vL67_0_1⟩] c67_0_23))) (.seq (.region r67_43 [] (some ⟨[2, 3, 4], true, [⟨true, 2, 0, 30200, 1⟩], []⟩)) .ret)))))
noncomputable def cm67_0 : MCode := cm67_0g J67_0_0 L67_0_1
theorem gm67_0 : cm67_0.Good Try.prog E67_0 sh67 := ⟨trivial, ⟨⟨trivial, ⟨⟨g67_0_7, m67_0_0, trivial⟩, ⟨⟨trivial, trivial⟩, ⟨trivial, ⟨⟨trivial, trivial⟩, trivial⟩⟩⟩⟩⟩, ⟨trivial, ⟨⟨trivial, ⟨g67_0_23, m67_0_1, trivial⟩⟩, ⟨trivial, trivial⟩⟩⟩⟩⟩
theorem fm67_0g (vf98_0 : Tf98_0) (vf118_0 : Tf118_0) (vJ67_0_0 : TJ67_0_0) (vL67_0_1 : TL67_0_1) (α : Type) (k : List RV → Option α) : Fn67_0 (f67_0g vJ67_0_0 vL67_0_1 vf98_0) α k = pa67_0.unc fun ds => fnM Try.prog (E67_0g vf98_0 vf118_0) sh67 (cm67_0g vJ67_0_0 vL67_0_1) rs67 k ds := by kernel_rfl
theorem fm67_0 : ∀ (α : Type) (k : List RV → Option α), Fn67_0 f67_0 α k = pa67_0.unc fun ds => fnM Try.prog E67_0 sh67 cm67_0 rs67 k ds := fm67_0g f98_0 f118_0 J67_0_0 L67_0_1
theorem is67 : FnIs Try.prog 67 nt67 tr67 tl67 cm67_0.erase rs67 := ⟨Try.f67, Try.func67, rfl, by kernel_rfl, by kernel_rfl, by kernel_rfl⟩
theorem io67_0 : InstOk Try.prog 67 nt67 ⟨pa67_0, Fn67_0 f67_0⟩ := inst_ok eo67_0 followsTry is67 ⟨⟨sh67, cm67_0, by kernel_rfl, gm67_0, fm67_0⟩⟩
abbrev nt18 : Nat := 56
def sh18 : List (Nat × List Sh) := [(7, [.sl]), (18, [.int .i64]), (23, [.int .i64]), (33, [.sl]), (35, [.flt .f32]), (36, [.flt .f32]), (42, [.sl]), (44, [.flt .f32]), (45, [.flt .f32]), (49, [.sl]), (51, [.flt .f32]), (52, [.flt .f32])]
def r18_2 : List AOper := [oO 1 (.box (.tmp 0)), oO 2 (.mv (kI 0)), oO 3 (.mv (kI 0))]
def r18_4 : List AOper := [oO 6 (.faddr 0 (.tmp 1)), oO 7 (.load false 1 (.tmp 6)), oO 8 (.len (.tmp 7)), oM 4 8]
def r18_7 : List AOper := [oM 9 4, oO 10 (.call 29 [(.tmp 9), (kI 4), (kI 64)]), oO 11 (.pure (oB (.unOp .not 4 (.tmp 10)) 4)), oM 12 11, oG 13 (.mv (.tmp 4)) 12 false, oG 14 (.bin .rem 3 (.tmp 13) (kI 4)) 12 false, oG 15 (.bin .neq 3 (.tmp 14) (kI 0)) 12 false, oO 16 (.pick (.tmp 12) (.const (.bool true)) (.tmp 15))]
def r18_10 : List AOper := [oO 2 (.mv (kI 0)), oO 3 (.mv (kI 12))]
def r18_13 : List AOper := [oO 17 (.faddr 1 (.tmp 1)), oO 18 (.load false 1 (.tmp 17)), oO 19 (.call 70 [(.tmp 18)]), oO 20 (.pure (oB (.unOp .not 4 (.tmp 19)) 4)), oM 21 20, oG 22 (.faddr 2 (.tmp 1)) 21 false, oG 23 (.load false 1 (.tmp 22)) 21 false, oG 24 (.call 29 [(.tmp 23), (kI 1), (kI 65536)]) 21 false, oG 25 (.pure (oB (.unOp .not 4 (.tmp 24)) 4)) 21 false, oO 26 (.pick (.tmp 21) (.const (.bool true)) (.tmp 25))]
def r18_16 : List AOper := [oO 2 (.mv (kI 0)), oO 3 (.mv (kI 2))]
def r18_19 : List AOper := [oO 5 (.mv (kI 0))]
def td18_21 : Option Tidy := (some ⟨[1, 4, 5], true, [⟨true, 1, 0, 30100, 1⟩], []⟩)
def r18_24 : List AOper := [oM 27 5, oM 28 4, oO 29 (.bin .lss 3 (.tmp 27) (.tmp 28))]
def r18_30 : List AOper := [oO 32 (.faddr 0 (.tmp 1)), oO 33 (.load false 1 (.tmp 32)), oM 34 5, oO 35 (.iaddr 1 none (.tmp 33) (.tmp 34)), oO 36 (.load false 1 (.tmp 35)), oO 37 (.pure (oB (.convert 74 112 (.tmp 36)) 112)), oO 38 (.call 71 [(.tmp 37)]), oO 39 (.pure (oB (.unOp .not 4 (.tmp 38)) 4))]
def r18_33 : List AOper := [oM 40 5, oM 2 40, oO 3 (.mv (kI 27))]
def r18_35 : List AOper := [oO 41 (.faddr 0 (.tmp 1)), oO 42 (.load false 1 (.tmp 41)), oM 43 5, oO 44 (.iaddr 1 none (.tmp 42) (.tmp 43)), oO 45 (.load false 1 (.tmp 44)), oO 46 (.bin .lss 74 (.tmp 45) (.const (.float Go.FloatKind.f32 0))), oM 47 46, oG 48 (.faddr 0 (.tmp 1)) 47 false, oG 49 (.load false 1 (.tmp 48)) 47 false, oG 50 (.mv (.tmp 5)) 47 false, oG 51 (.iaddr 1 none (.tmp 49) (.tmp 50)) 47 false, oG 52 (.load false 1 (.tmp 51)) 47 false, oG 53 (.bin .gtr 74 (.tmp 52) (.const (.float Go.FloatKind.f32 1199570688))) 47 false, oO 54 (.pick (.tmp 47) (.const (.bool true)) (.tmp 53))]
def r18_38 : List AOper := [oM 55 5, oM 2 55, oO 3 (.mv (kI 2))]
def r18_39 : List AOper := [oM 30 5, oO 31 (.bin .add 3 (.tmp 30) (kI 1)), oM 5 31]
def r18_41 : List AOper := [oO 2 (.mv (kI 0)), oO 3 (.mv (kI 0))]
def tr18 : List (Nat × Tidy) := [tT 0 [1], tT 1 [1, 4], tT 2 [1, 4, 16], tT 3 [2, 3], tT 4 [1, 4, 26], tT 5 [2, 3], tT 6 [1, 4, 5], tT 7 [1, 4, 5, 29], tT 9 [1, 4, 5, 39], tT 10 [2, 3], tT 11 [1, 4, 5, 54], tT 12 [2, 3], tT 8 [1, 4, 5], tT 13 [2, 3]]
def tl18 : List (Nat × Tidy) := [(7, ⟨[1, 4, 5], true, [⟨true, 1, 0, 30100, 1⟩], []⟩)]
def rs18 : List AResV := [.tmp 2, .tmp 3]
def p18_0_0 : PT St := pS [sl 1 (aV false [(cPtr 1 0)]), sl 4 (aV false [(cD (dI .i64))]), sl 5 (aV false [(cD (dI .i64))])] [eBox 1 [(cD dL), (cD (dI .i64)), (cD (dI .i64))]]
def u18_0_0 {β : Type} (g : St → β) : Int → Int → Rows → Int → Int → β := p18_0_0.unc g
def p18_0_1 : PT St := pS [sl 2 (aV false [(cD (dI .i64))]), sl 3 (aV false [(cD (dI .i64))])] []
def u18_0_1 {β : Type} (g : St → β) : Int → Int → β := p18_0_1.unc g
def p18_0_2 : PT St := pS [sl 1 (aV false [(cPtr 1 0)]), sl 4 (aV false [(cD (dI .i64))]), sl 5 (aV false [(cD (dI .i64))]), sl 29 (aV false [(cD dB)])] [eBox 1 [(cD dL), (cD (dI .i64)), (cD (dI .i64))]]
def u18_0_2 {β : Type} (g : St → β) : Int → Int → Bool → Rows → Int → Int → β := p18_0_2.unc g
def pr18_0_0 : PT (List RV) := pRs [pR false [rD (dI .i64)], pR false [rD (dI .i64)]]
def ur18_0_0 {β : Type} (g : List RV → β) : Int → Int → β := pr18_0_0.unc g
def E18_0g (vf29_0 : Tf29_0) (vf70_0 : Tf70_0) (vf71_0 : Tf71_0) (vf71_1 : Tf71_1) : EnvK := EnvK.of [⟨29, nt29, [⟨pa29_0, Fn29_0 vf29_0⟩]⟩, ⟨70, nt70, [⟨pa70_0, Fn70_0 vf70_0⟩]⟩, ⟨71, nt71, [⟨pa71_0, Fn71_0 vf71_0⟩, ⟨pa71_1, Fn71_1 vf71_1⟩]⟩] noSeq
noncomputable def E18_0 : EnvK := E18_0g f29_0 f70_0 f71_0 f71_1
theorem eo18_0 : E18_0.Ok Try.prog := EnvK.of_ok noSeq_ok ⟨⟨io29_0, trivial⟩, ⟨io70_0, trivial⟩, ⟨io71_0, io71_1, trivial⟩, trivial⟩
noncomputable def c18_0_21g  : MCode := (.seq (.seq (.region r18_24 [] (tO [1, 4, 5, 29])) (.cond (.tmp 29) .skip (.exit 0))) (.seq (.block 1 (.seq (.seq (.region r18_30 [] (tO [1, 4, 5, 39])) (.cond (.tmp 39) (.seq (.region r18_33 [] (tO [2, 3])) .ret) .skip)) (.seq (.region r18_35 [] (tO [1, 4, 5, 54])) (.cond (.tmp 54) (.seq (.region r18_38 [] (tO [2, 3])) .ret) .skip)))) (.region r18_39 [] (tO [1, 4, 5]))))
noncomputable def c18_0_21 : MCode := c18_0_21g 
theorem g18_0_21 : c18_0_21.Good Try.prog E18_0 sh18 := ⟨⟨trivial, ⟨trivial, trivial⟩⟩, ⟨⟨⟨trivial, ⟨⟨trivial, trivial⟩, trivial⟩⟩, ⟨trivial, ⟨⟨trivial, trivial⟩, trivial⟩⟩⟩, trivial⟩⟩
--CODE 21 0
def S18_0_0g (vf71_0 : Tf71_0) (vf71_1 : Tf71_1) (α : Type) (x7 : Int) (x9 : Rows) (x8 : Int) (kn : Int → Option α) (k1 : Int → Int → Option α) (k2 : Int → Bool → Option α) : Option α :=
 cK (decide (x8 < x7))
 (rowK x9 x8 [.flt .f32]
 (fun x13 => cK (isNaNb .f32 x13)
 (vf71_0 α 
 (k1 x8 27))
 (flK (f2f .f32 x13 .f64)
 (fun x14 => vf71_1 α x14
 (fun x15 => cK (!x15)
 (k1 x8 27)
 (rowK x9 x8 [.flt .f32]
 (fun x16 => cK ((FloatKind.format .f32).order x16 0 == some Ordering.lt)
 (k1 x8 2)
 (rowK x9 x8 [.flt .f32]
 (fun x17 => cK ((FloatKind.format .f32).order x17 1199570688 == some Ordering.gt)
 (k1 x8 2)
 (kn (w64 (x8 + 1))))))))))))
 (k2 x8 (decide (x8 < x7)))
noncomputable def S18_0_0 (α : Type) (x7 : Int) (x9 : Rows) (x8 : Int) (kn : Int → Option α) (k1 : Int → Int → Option α) (k2 : Int → Bool → Option α) : Option α := S18_0_0g f71_0 f71_1 α x7 x9 x8 kn k1 k2
noncomputable def R18_0_0 (α : Type) (x7 : Int) (x9 : Rows) (k1 : Int → Int → Option α) (k2 : Int → Bool → Option α) : Nat → Int → Option α
 | 0, _ => none
 | n + 1, x8 => S18_0_0 α x7 x9 x8 (R18_0_0 α x7 x9 k1 k2 n) k1 k2
noncomputable def L18_0_0 (α : Type) (x7 : Int) (x9 : Rows) (k1 : Int → Int → Option α) (k2 : Int → Bool → Option α) (x8 : Int) : Option α := R18_0_0 α x7 x9 k1 k2 fuel x8
abbrev TL18_0_0 : Type 1 := (α : Type) → Int → Rows → (Int → Int → Option α) → (Int → Bool → Option α) → Int → Option α
def F18_0_0 (v : TL18_0_0) (α : Type) (K : Exit → St → Option α) : Int → Int → Rows → Int → Int → Option α := fun x7 x8 x9 x10 x11 => v α x7 x9 (fun (y1 : Int) (y2 : Int) => u18_0_1 (K .ret) y1 y2) (fun (y1 : Int) (y2 : Bool) => u18_0_2 (K (.exit 0)) x7 y1 y2 x9 x10 x11) x8
theorem r18_0_0g (vf29_0 : Tf29_0) (vf70_0 : Tf70_0) (vf71_0 : Tf71_0) (vf71_1 : Tf71_1)  (α : Type) (K : Exit → St → Option α) (Kn : St → Option α) (x7 x8 : Int) (x9 : Rows) (x10 x11 : Int) : u18_0_0 (fun σ => runM Try.prog (E18_0g vf29_0 vf70_0 vf71_0 vf71_1) sh18 (c18_0_21g ) (thenK (fun σ => tidyK td18_21 σ Kn) K) σ) x7 x8 x9 x10 x11 = S18_0_0g vf71_0 vf71_1 α x7 x9 x8 (fun x8 => u18_0_0 Kn x7 x8 x9 x10 x11) (fun (y1 : Int) (y2 : Int) => u18_0_1 (K .ret) y1 y2) (fun (y1 : Int) (y2 : Bool) => u18_0_2 (K (.exit 0)) x7 y1 y2 x9 x10 x11) := by kernel_rfl
theorem r18_0_0 (α : Type) (K : Exit → St → Option α) (Kn : St → Option α) (x7 x8 : Int) (x9 : Rows) (x10 x11 : Int) : u18_0_0 (fun σ => runM Try.prog E18_0 sh18 c18_0_21 (thenK (fun σ => tidyK td18_21 σ Kn) K) σ) x7 x8 x9 x10 x11 = S18_0_0 α x7 x9 x8 (fun x8 => u18_0_0 Kn x7 x8 x9 x10 x11) (fun (y1 : Int) (y2 : Int) => u18_0_1 (K .ret) y1 y2) (fun (y1 : Int) (y2 : Bool) => u18_0_2 (K (.exit 0)) x7 y1 y2 x9 x10 x11) := r18_0_0g f29_0 f70_0 f71_0 f71_1 α K Kn x7 x8 x9 x10 x11
theorem t18_0_0 (α : Type) (K : Exit → St → Option α) : ∀ (n : Nat) (x7 x8 : Int) (x9 : Rows) (x10 x11 : Int), R18_0_0 α x7 x9 (fun (y1 : Int) (y2 : Int) => u18_0_1 (K .ret) y1 y2) (fun (y1 : Int) (y2 : Bool) => u18_0_2 (K (.exit 0)) x7 y1 y2 x9 x10 x11) n x8 = u18_0_0 (loopT (runM Try.prog E18_0 sh18 c18_0_21) td18_21 K n) x7 x8 x9 x10 x11 := by
 intro n
 induction n with
 | zero => intros; rfl
 | succ n ih => intro x7 x8 x9 x10 x11; exact (congrArg (fun kn => S18_0_0 α x7 x9 x8 kn (fun (y1 : Int) (y2 : Int) => u18_0_1 (K .ret) y1 y2) (fun (y1 : Int) (y2 : Bool) => u18_0_2 (K (.exit 0)) x7 y1 y2 x9 x10 x11)) (funext fun x8 => ih x7 x8 x9 x10 x11)).trans (r18_0_0 α K (loopT (runM Try.prog E18_0 sh18 c18_0_21) td18_21 K n) x7 x8 x9 x10 x11).symm
theorem m18_0_0 : ∀ (α : Type) (K : Exit → St → Option α), F18_0_0 L18_0_0 α K = p18_0_0.unc fun σ => loopT (runM Try.prog E18_0 sh18 c18_0_21) td18_21 K fuel σ := fun α K => funext fun x7 => funext fun x8 => funext fun x9 => funext fun x10 => funext fun x11 => t18_0_0 α K fuel x7 x8 x9 x10 x11
abbrev Tf18_0 : Type 1 := (α : Type) → Rows → Int → Int → (Int → Int → Option α) → Option α
def f18_0g (vL18_0_0 : TL18_0_0) (vf29_0 : Tf29_0) (vf70_0 : Tf70_0) (α : Type) (x1 : Rows) (x2 x3 : Int) (k1 : Int → Int → Option α) : Option α :=
 vf29_0 α ((List.length x1 : Nat) : Int) 4 64
 (fun x4 => cK (!x4)
 (k1 0 12)
 (cK ((Int.tmod ((List.length x1 : Nat) : Int) 4) != 0)
 (k1 0 12)
 (vf70_0 α x2
 (fun x5 => cK (!x5)
 (k1 0 2)
 (vf29_0 α x3 1 65536
 (fun x6 => cK (!x6)
 (k1 0 2)
 (vL18_0_0 α ((List.length x1 : Nat) : Int) x1
 (fun x18 x19 => k1 x18 x19)
 (fun x20 x21 => k1 0 0) 0)))))))
noncomputable def f18_0 (α : Type) (x1 : Rows) (x2 x3 : Int) (k1 : Int → Int → Option α) : Option α := f18_0g L18_0_0 f29_0 f70_0 α x1 x2 x3 k1
def pa18_0 : PT (List DV) := pA [pV true [dL, (dI .i64), (dI .i64)]]
def Fn18_0 (v : Tf18_0) (α : Type) (k : List RV → Option α) : Rows → Int → Int → Option α := fun x1 x2 x3 => v α x1 x2 x3 (fun (y1 : Int) (y2 : Int) => ur18_0_0 k y1 y2)
noncomputable def cm18_0g (vL18_0_0 : TL18_0_0) : MCode := (.seq (.region r18_2 [] (tO [1])) (.seq (.region r18_4 [] (tO [1, 4])) (.seq (.seq (.region r18_7 [] (tO [1, 4, 16])) (.cond (.tmp 16) (.seq (.region r18_10 [] (tO [2, 3])) .ret) .skip)) (.seq (.seq (.region r18_13 [] (tO [1, 4, 26])) (.cond (.tmp 26) (.seq (.region r18_16 [] (tO [2, 3])) .ret) .skip)) (.seq (.seq (.region r18_19 [] (tO [1, 4, 5])) (.block 0 (.loop td18_21 [⟨p18_0_0, F18_0_0 vL18_0_0⟩] c18_0_21))) (.seq (.region r18_41 [] (tO [2, 3])) .ret))))))
noncomputable def cm18_0 : MCode := cm18_0g L18_0_0
theorem gm18_0 : cm18_0.Good Try.prog E18_0 sh18 := ⟨trivial, ⟨trivial, ⟨⟨trivial, ⟨⟨trivial, trivial⟩, trivial⟩⟩, ⟨⟨trivial, ⟨⟨trivial, trivial⟩, trivial⟩⟩, ⟨⟨trivial, ⟨g18_0_21, m18_0_0, trivial⟩⟩, ⟨trivial, trivial⟩⟩⟩⟩⟩⟩
theorem fm18_0g (vf29_0 : Tf29_0) (vf70_0 : Tf70_0) (vf71_0 : Tf71_0) (vf71_1 : Tf71_1) (vL18_0_0 : TL18_0_0) (α : Type) (k : List RV → Option α) : Fn18_0 (f18_0g vL18_0_0 vf29_0 vf70_0) α k = pa18_0.unc fun ds => fnM Try.prog (E18_0g vf29_0 vf70_0 vf71_0 vf71_1) sh18 (cm18_0g vL18_0_0) rs18 k ds := by kernel_rfl
theorem fm18_0 : ∀ (α : Type) (k : List RV → Option α), Fn18_0 f18_0 α k = pa18_0.unc fun ds => fnM Try.prog E18_0 sh18 cm18_0 rs18 k ds := fm18_0g f29_0 f70_0 f71_0 f71_1 L18_0_0
theorem is18 : FnIs Try.prog 18 nt18 tr18 tl18 cm18_0.erase rs18 := ⟨Try.f18, Try.func18, rfl, by kernel_rfl, by kernel_rfl, by kernel_rfl⟩
theorem io18_0 : InstOk Try.prog 18 nt18 ⟨pa18_0, Fn18_0 f18_0⟩ := inst_ok eo18_0 followsTry is18 ⟨⟨sh18, cm18_0, by kernel_rfl, gm18_0, fm18_0⟩⟩
abbrev nt125 : Nat := 24
def sh125 : List (Nat × List Sh) := [(7, [.int .i64]), (13, [.int .i64]), (20, [.int .i64]), (22, [.int .i64])]
def r125_2 : List AOper := [oO 2 (.box (.tmp 0)), oO 4 (.mv (kI 0))]
def r125_6 : List AOper := [oO 6 (.faddr 0 (.tmp 2)), oO 7 (.load false 1 (.tmp 6)), oM 8 1, oO 9 (.call 109 [(.tmp 7), (.tmp 8)]), oO 10 (.pure (oB (.unOp .not 4 (.tmp 9)) 4)), oM 11 10, oG 12 (.faddr 1 (.tmp 2)) 11 false, oG 13 (.load false 1 (.tmp 12)) 11 false, oG 14 (.mv (.tmp 1)) 11 false, oG 15 (.call 109 [(.tmp 13), (.tmp 14)]) 11 false, oG 16 (.pure (oB (.unOp .not 4 (.tmp 15)) 4)) 11 false, oO 17 (.pick (.tmp 11) (.const (.bool true)) (.tmp 16)), oM 5 17]
def r125_9 : List AOper := [oO 4 (.mv (kI 2))]
def r125_11 : List AOper := [oO 19 (.faddr 0 (.tmp 2)), oO 20 (.load false 1 (.tmp 19)), oO 21 (.faddr 1 (.tmp 2)), oO 22 (.load false 1 (.tmp 21)), oO 23 (.bin .gtr 3 (.tmp 20) (.tmp 22)), oM 18 23]
def r125_14 : List AOper := [oO 4 (.mv (kI 10))]
def r125_16 : List AOper := [oO 4 (.mv (kI 0))]
def tr125 : List (Nat × Tidy) := [tT 0 [1, 2], tT 1 [2, 5], tT 2 [4], tT 3 [18], tT 4 [4], tT 5 [4]]
def tl125 : List (Nat × Tidy) := []
def rs125 : List AResV := [.tmp 4]
def p125_0_0 : PT St := pS [sl 1 (aV false [(cD (dI .i64))]), sl 2 (aV false [(cPtr 2 0)])] [eBox 2 [(cD (dI .i64)), (cD (dI .i64))]]
def u125_0_0 {β : Type} (g : St → β) : Int → Int → Int → β := p125_0_0.unc g
def p125_0_1 : PT St := pS [sl 2 (aV false [(cPtr 2 0)]), sl 5 (aV false [(cD dB)])] [eBox 2 [(cD (dI .i64)), (cD (dI .i64))]]
def u125_0_1 {β : Type} (g : St → β) : Bool → Int → Int → β := p125_0_1.unc g
def pr125_0_0 : PT (List RV) := pRs [pR false [rD (dI .i64)]]
def ur125_0_0 {β : Type} (g : List RV → β) : Int → β := pr125_0_0.unc g
def E125_0g (vf109_0 : Tf109_0) : EnvK := EnvK.of [⟨109, nt109, [⟨pa109_0, Fn109_0 vf109_0⟩]⟩] noSeq
noncomputable def E125_0 : EnvK := E125_0g f109_0
theorem eo125_0 : E125_0.Ok Try.prog := EnvK.of_ok noSeq_ok ⟨⟨io109_0, trivial⟩, trivial⟩
noncomputable def c125_0_5g  : MCode := (.region r125_6 [] (tO [2, 5]))
noncomputable def c125_0_5 : MCode := c125_0_5g 
theorem g125_0_5 : c125_0_5.Good Try.prog E125_0 sh125 := trivial
--CODE 5 0
abbrev TJ125_0_0 : Type 1 := (α : Type) → Int → Int → Int → (Bool → Option α) → Option α
def J125_0_0g (vf109_0 : Tf109_0) (α : Type) (x4 x5 x6 : Int) (k1 : Bool → Option α) : Option α :=
 vf109_0 α x5 x4
 (fun x8 => cK (!x8)
 (k1 true)
 (vf109_0 α x6 x4
 (fun x9 => k1 (!x9))))
noncomputable def J125_0_0 (α : Type) (x4 x5 x6 : Int) (k1 : Bool → Option α) : Option α := J125_0_0g f109_0 α x4 x5 x6 k1
def F125_0_0 (v : TJ125_0_0) (α : Type) (K : Exit → St → Option α) : Int → Int → Int → Option α := fun x4 x5 x6 => v α x4 x5 x6 (fun (y1 : Bool) => u125_0_1 (K .normal) y1 x5 x6) 
theorem m125_0_0g (vf109_0 : Tf109_0)  (α : Type) (K : Exit → St → Option α) : F125_0_0 (J125_0_0g vf109_0) α K = p125_0_0.unc fun σ => runM Try.prog (E125_0g vf109_0) sh125 (c125_0_5g ) K σ := by kernel_rfl
theorem m125_0_0 : ∀ (α : Type) (K : Exit → St → Option α), F125_0_0 J125_0_0 α K = p125_0_0.unc fun σ => runM Try.prog E125_0 sh125 c125_0_5 K σ := m125_0_0g f109_0
abbrev Tf125_0 : Type 1 := (α : Type) → Int → Int → Int → (Int → Option α) → Option α
def f125_0g (vJ125_0_0 : TJ125_0_0) (α : Type) (x1 x2 x3 : Int) (k1 : Int → Option α) : Option α :=
 vJ125_0_0 α x3 x1 x2
 (fun x10 => cK x10
 (k1 2)
 (cK (decide (x2 < x1))
 (k1 10)
 (k1 0)))
noncomputable def f125_0 (α : Type) (x1 x2 x3 : Int) (k1 : Int → Option α) : Option α := f125_0g J125_0_0 α x1 x2 x3 k1
def pa125_0 : PT (List DV) := pA [pV true [(dI .i64), (dI .i64)], pV false [(dI .i64)]]
def Fn125_0 (v : Tf125_0) (α : Type) (k : List RV → Option α) : Int → Int → Int → Option α := fun x1 x2 x3 => v α x1 x2 x3 (fun (y1 : Int) => ur125_0_0 k y1)
noncomputable def cm125_0g (vJ125_0_0 : TJ125_0_0) : MCode := (.seq (.region r125_2 [] (tO [1, 2])) (.seq (.block 0 (.seq (.mark [⟨p125_0_0, F125_0_0 vJ125_0_0⟩] c125_0_5) (.cond (.tmp 5) (.seq (.region r125_9 [] (tO [4])) .ret) (.seq (.region r125_11 [] (tO [18])) (.cond (.tmp 18) (.seq (.region r125_14 [] (tO [4])) .ret) .skip))))) (.seq (.region r125_16 [] (tO [4])) .ret)))
noncomputable def cm125_0 : MCode := cm125_0g J125_0_0
theorem gm125_0 : cm125_0.Good Try.prog E125_0 sh125 := ⟨trivial, ⟨⟨⟨g125_0_5, m125_0_0, trivial⟩, ⟨⟨trivial, trivial⟩, ⟨trivial, ⟨⟨trivial, trivial⟩, trivial⟩⟩⟩⟩, ⟨trivial, trivial⟩⟩⟩
theorem fm125_0g (vf109_0 : Tf109_0) (vJ125_0_0 : TJ125_0_0) (α : Type) (k : List RV → Option α) : Fn125_0 (f125_0g vJ125_0_0) α k = pa125_0.unc fun ds => fnM Try.prog (E125_0g vf109_0) sh125 (cm125_0g vJ125_0_0) rs125 k ds := by kernel_rfl
theorem fm125_0 : ∀ (α : Type) (k : List RV → Option α), Fn125_0 f125_0 α k = pa125_0.unc fun ds => fnM Try.prog E125_0 sh125 cm125_0 rs125 k ds := fm125_0g f109_0 J125_0_0
theorem is125 : FnIs Try.prog 125 nt125 tr125 tl125 cm125_0.erase rs125 := ⟨Try.f125, Try.func125, rfl, by kernel_rfl, by kernel_rfl, by kernel_rfl⟩
theorem io125_0 : InstOk Try.prog 125 nt125 ⟨pa125_0, Fn125_0 f125_0⟩ := inst_ok eo125_0 followsTry is125 ⟨⟨sh125, cm125_0, by kernel_rfl, gm125_0, fm125_0⟩⟩
abbrev nt21 : Nat := 84
def sh21 : List (Nat × List Sh) := [(12, [.sl, .int .i64, .int .i64]), (21, [.sl, .int .i64, .int .i64]), (27, [.sl]), (32, [.int .i64]), (33, [.int .i64]), (37, [.int .i64]), (43, [.sl]), (46, [.int .i64]), (48, [.int .i64]), (51, [.int .i64]), (54, [.int .i64]), (58, [.int .i64]), (62, [.int .i64]), (64, [.int .i64]), (69, [.int .i64]), (73, [.int .i64]), (75, [.int .i64]), (80, [.int .i64])]
def r21_2 : List AOper := [oO 1 (.box (.tmp 0)), oO 2 (.alloc [(cI 0), (cI 0), (cI 0), (cI 0), (cI 0), (cI 0)]), oO 3 (.mv (kI 0))]
def r21_4 : List AOper := [oO 12 (.load true 3 (.tmp 1)), oO 13 (.call 67 [(.tmp 12)]), oM 11 13, oO 14 (.extract 0 (.tmp 11)), oO 15 (.extract 1 (.tmp 11)), oO 16 (.extract 2 (.tmp 11)), oO 4 (.alloc [.nils, (cI 0), (cI 0)]), oD (.store 3 (.tmp 4) (.tmp 14)), oM 5 15, oM 6 16]
def r21_7 : List AOper := [oM 17 6, oO 18 (.bin .neq 28 (.tmp 17) (kI 0))]
def r21_10 : List AOper := [oO 19 (.build [(cI 0), (cI 0), (cI 0), (cI 0), (cI 0), (cI 0)] []), oM 20 6, oD (.store 6 (.tmp 2) (.tmp 19)), oM 3 20]
def r21_13 : List AOper := [oO 21 (.load true 3 (.tmp 4)), oO 22 (.call 75 [(.tmp 21)]), oO 23 (.len (.tmp 22)), oO 24 (.bin .gtr 3 (.tmp 23) (kI 0))]
def r21_16 : List AOper := [oO 25 (.build [(cI 0), (cI 0), (cI 0), (cI 0), (cI 0), (cI 0)] []), oD (.store 6 (.tmp 2) (.tmp 25)), oO 3 (.mv (kI 16))]
def r21_18 : List AOper := [oO 7 (.alloc [(cI 0), (cI 0), (cI 0), (cI 0)])]
def r21_21 : List AOper := [oO 26 (.faddr 0 (.tmp 4)), oO 27 (.load false 1 (.tmp 26)), oO 28 (.len (.tmp 27)), oO 29 (.mv (kI 0))]
def td21_23 : Option Tidy := (some ⟨[2, 4, 7, 27, 28, 29], true, [⟨false, 27, 0, 20027, 1⟩, ⟨true, 1, 0, 30100, 1⟩, ⟨true, 4, 0, 30400, 1⟩], []⟩)
def r21_25 : List AOper := [oO 30 (.bin .lss 3 (.tmp 29) (.tmp 28))]
def r21_31 : List AOper := [oM 31 29, oO 32 (.iaddr 1 none (.tmp 27) (.tmp 29)), oO 33 (.load false 1 (.tmp 32)), oM 8 31, oM 9 33]
def r21_32 : List AOper := [oM 34 8, oO 35 (.bin .rem 3 (.tmp 34) (kI 4)), oO 36 (.iaddr 1 (some 4) (.tmp 7) (.tmp 35)), oO 37 (.load false 1 (.tmp 36)), oM 38 9, oO 39 (.bin .add 3 (.tmp 37) (.tmp 38)), oO 40 (.iaddr 1 (some 4) (.tmp 7) (.tmp 35)), oD (.store 1 (.tmp 40) (.tmp 39))]
def r21_33 : List AOper := [oO 41 (.bin .add 3 (.tmp 29) (kI 1)), oM 29 41]
def r21_35 : List AOper := [oO 42 (.faddr 0 (.tmp 4)), oO 43 (.load false 1 (.tmp 42)), oO 44 (.len (.tmp 43)), oM 10 44]
def r21_37 : List AOper := [oO 45 (.iaddr 1 (some 4) (.tmp 7) (kI 0)), oO 46 (.load false 1 (.tmp 45)), oO 47 (.iaddr 1 (some 4) (.tmp 7) (kI 1)), oO 48 (.load false 1 (.tmp 47)), oO 49 (.bin .add 3 (.tmp 46) (.tmp 48)), oO 50 (.iaddr 1 (some 4) (.tmp 7) (kI 2)), oO 51 (.load false 1 (.tmp 50)), oO 52 (.bin .add 3 (.tmp 49) (.tmp 51)), oO 53 (.iaddr 1 (some 4) (.tmp 7) (kI 3)), oO 54 (.load false 1 (.tmp 53)), oO 55 (.bin .add 3 (.tmp 52) (.tmp 54)), oM 56 10, oO 57 (.faddr 1 (.tmp 4)), oO 58 (.load false 1 (.tmp 57)), oO 59 (.bin .mul 3 (.tmp 56) (.tmp 58)), oO 60 (.call 76 [(.tmp 55), (.tmp 59)]), oO 61 (.iaddr 1 (some 4) (.tmp 7) (kI 0)), oO 62 (.load false 1 (.tmp 61)), oO 63 (.iaddr 1 (some 4) (.tmp 7) (kI 2)), oO 64 (.load false 1 (.tmp 63)), oO 65 (.bin .sub 3 (.tmp 62) (.tmp 64)), oM 66 10, oO 67 (.bin .quo 3 (.tmp 66) (kI 2)), oO 68 (.faddr 1 (.tmp 4)), oO 69 (.load false 1 (.tmp 68)), oO 70 (.bin .mul 3 (.tmp 67) (.tmp 69)), oO 71 (.call 76 [(.tmp 65), (.tmp 70)]), oO 72 (.iaddr 1 (some 4) (.tmp 7) (kI 1)), oO 73 (.load false 1 (.tmp 72)), oO 74 (.iaddr 1 (some 4) (.tmp 7) (kI 3)), oO 75 (.load false 1 (.tmp 74)), oO 76 (.bin .sub 3 (.tmp 73) (.tmp 75)), oM 77 10, oO 78 (.bin .quo 3 (.tmp 77) (kI 2)), oO 79 (.faddr 1 (.tmp 4)), oO 80 (.load false 1 (.tmp 79)), oO 81 (.bin .mul 3 (.tmp 78) (.tmp 80)), oO 82 (.call 76 [(.tmp 76), (.tmp 81)]), oO 83 (.build [(cI 0), (cI 0), (cI 0), (cI 0), (cI 0), (cI 0)] [(0, 2, (.tmp 60)), (2, 2, (.tmp 71)), (4, 2, (.tmp 82))]), oD (.store 6 (.tmp 2) (.tmp 83)), oO 3 (.mv (kI 0))]
def tr21 : List (Nat × Tidy) := [tT 0 [1, 2], tT 1 [2, 4, 6], tT 2 [2, 4, 6, 18], tT 3 [2, 3], tT 4 [2, 4, 24], tT 5 [2, 3], tT 6 [2, 4, 7], tT 7 [2, 4, 7, 27, 28, 29], tT 8 [2, 4, 7, 27, 28, 29, 30], tT 9 [2, 4, 7, 8, 9, 27, 28, 29], tT 10 [2, 4, 7, 27, 28, 29], tT 11 [2, 4, 7, 27, 28, 29], tT 12 [2, 4, 7, 10], tT 13 [2, 3]]
def tl21 : List (Nat × Tidy) := [(8, ⟨[2, 4, 7, 27, 28, 29], true, [⟨false, 27, 0, 20027, 1⟩, ⟨true, 1, 0, 30100, 1⟩, ⟨true, 4, 0, 30400, 1⟩], []⟩)]
def rs21 : List AResV := [.cell 2 true 6, .tmp 3]
def p21_0_0 : PT St := pS [sl 2 (aV false [(cPtr 2 0)]), sl 4 (aV false [(cPtr 4 0)]), sl 7 (aV false [(cPtr 7 0)]), sl 27 (aV false [(cRef 30400)]), sl 28 (aV false [(cD (dI .i64))]), sl 29 (aV false [(cD (dI .i64))]), sl 30 (aV false [(cD dB)])] [eBox 2 [(cD (dI .i64)), (cD (dI .i64)), (cD (dI .i64)), (cD (dI .i64)), (cD (dI .i64)), (cD (dI .i64))], eBox 4 [(cRef 30400), (cD (dI .i64)), (cD (dI .i64))], eOwn 30400 1, eBox 7 [(cD (dI .i64)), (cD (dI .i64)), (cD (dI .i64)), (cD (dI .i64))]]
def u21_0_0 {β : Type} (g : St → β) : Int → Int → Bool → Int → Int → Int → Int → Int → Int → Int → Int → Rows → Int → Int → Int → Int → β := p21_0_0.unc g
def p21_0_1 : PT St := pS [sl 2 (aV false [(cPtr 2 0)]), sl 4 (aV false [(cPtr 4 0)]), sl 7 (aV false [(cPtr 7 0)]), sl 27 (aV false [(cRef 30400)]), sl 28 (aV false [(cD (dI .i64))]), sl 29 (aV false [(cD (dI .i64))])] [eBox 2 [(cD (dI .i64)), (cD (dI .i64)), (cD (dI .i64)), (cD (dI .i64)), (cD (dI .i64)), (cD (dI .i64))], eBox 4 [(cRef 30400), (cD (dI .i64)), (cD (dI .i64))], eOwn 30400 1, eBox 7 [(cD (dI .i64)), (cD (dI .i64)), (cD (dI .i64)), (cD (dI .i64))]]
def u21_0_1 {β : Type} (g : St → β) : Int → Int → Int → Int → Int → Int → Int → Int → Int → Int → Rows → Int → Int → Int → Int → β := p21_0_1.unc g
def pr21_0_0 : PT (List RV) := pRs [pR true [rD (dI .i64), rD (dI .i64), rD (dI .i64), rD (dI .i64), rD (dI .i64), rD (dI .i64)], pR false [rD (dI .i64)]]
def ur21_0_0 {β : Type} (g : List RV → β) : Int → Int → Int → Int → Int → Int → Int → β := pr21_0_0.unc g
def E21_0g (vf67_0 : Tf67_0) (vf75_0 : Tf75_0) (vf76_0 : Tf76_0) : EnvK := EnvK.of [⟨67, nt67, [⟨pa67_0, Fn67_0 vf67_0⟩]⟩, ⟨75, nt75, [⟨pa75_0, Fn75_0 vf75_0⟩]⟩, ⟨76, nt76, [⟨pa76_0, Fn76_0 vf76_0⟩]⟩] noSeq
noncomputable def E21_0 : EnvK := E21_0g f67_0 f75_0 f76_0
theorem eo21_0 : E21_0.Ok Try.prog := EnvK.of_ok noSeq_ok ⟨⟨io67_0, trivial⟩, ⟨io75_0, trivial⟩, ⟨io76_0, trivial⟩, trivial⟩
noncomputable def c21_0_28g  : MCode := (.block 1 (.seq (.region r21_31 [] (tO [2, 4, 7, 8, 9, 27, 28, 29])) (.region r21_32 [] (tO [2, 4, 7, 27, 28, 29]))))
noncomputable def c21_0_28 : MCode := c21_0_28g 
theorem g21_0_28 : c21_0_28.Good Try.prog E21_0 sh21 := ⟨trivial, trivial⟩
--CODE 28 0
abbrev TJ21_0_0 : Type 1 := (α : Type) → Int → Rows → Int → Int → Int → Int → (Int → Int → Int → Int → Option α) → Option α
def J21_0_0g  (α : Type) (x27 : Int) (x37 : Rows) (x38 x39 x40 x41 : Int) (k1 : Int → Int → Int → Int → Option α) : Option α :=
 ixK x37 x27 1
 (ldK x37 (Int.toNat x27) 0 [.int .i64]
 (fun x43 => cK ((Int.tmod x27 4) == 3)
 (cK ((Int.tmod x27 4) == 3)
 (k1 x38 x39 x40 (w64 (x41 + x43)))
 (cK ((Int.tmod x27 4) == 2)
 (k1 x38 x39 (w64 (x41 + x43)) x41)
 (cK ((Int.tmod x27 4) == 1)
 (k1 x38 (w64 (x41 + x43)) x40 x41)
 (cK ((Int.tmod x27 4) == 0)
 (k1 (w64 (x41 + x43)) x39 x40 x41)
 (none)))))
 (cK ((Int.tmod x27 4) == 2)
 (cK ((Int.tmod x27 4) == 3)
 (k1 x38 x39 x40 (w64 (x40 + x43)))
 (cK ((Int.tmod x27 4) == 2)
 (k1 x38 x39 (w64 (x40 + x43)) x41)
 (cK ((Int.tmod x27 4) == 1)
 (k1 x38 (w64 (x40 + x43)) x40 x41)
 (cK ((Int.tmod x27 4) == 0)
 (k1 (w64 (x40 + x43)) x39 x40 x41)
 (none)))))
 (cK ((Int.tmod x27 4) == 1)
 (cK ((Int.tmod x27 4) == 3)
 (k1 x38 x39 x40 (w64 (x39 + x43)))
 (cK ((Int.tmod x27 4) == 2)
 (k1 x38 x39 (w64 (x39 + x43)) x41)
 (cK ((Int.tmod x27 4) == 1)
 (k1 x38 (w64 (x39 + x43)) x40 x41)
 (cK ((Int.tmod x27 4) == 0)
 (k1 (w64 (x39 + x43)) x39 x40 x41)
 (none)))))
 (cK ((Int.tmod x27 4) == 0)
 (cK ((Int.tmod x27 4) == 3)
 (k1 x38 x39 x40 (w64 (x38 + x43)))
 (cK ((Int.tmod x27 4) == 2)
 (k1 x38 x39 (w64 (x38 + x43)) x41)
 (cK ((Int.tmod x27 4) == 1)
 (k1 x38 (w64 (x38 + x43)) x40 x41)
 (cK ((Int.tmod x27 4) == 0)
 (k1 (w64 (x38 + x43)) x39 x40 x41)
 (none)))))
 (none))))))
noncomputable def J21_0_0 (α : Type) (x27 : Int) (x37 : Rows) (x38 x39 x40 x41 : Int) (k1 : Int → Int → Int → Int → Option α) : Option α := J21_0_0g  α x27 x37 x38 x39 x40 x41 k1
def F21_0_0 (v : TJ21_0_0) (α : Type) (K : Exit → St → Option α) : Int → Int → Bool → Int → Int → Int → Int → Int → Int → Int → Int → Rows → Int → Int → Int → Int → Option α := fun x26 x27 x28 x29 x30 x31 x32 x33 x34 x35 x36 x37 x38 x39 x40 x41 => v α x27 x37 x38 x39 x40 x41 (fun (y1 : Int) (y2 : Int) (y3 : Int) (y4 : Int) => u21_0_1 (K .normal) x26 x27 x29 x30 x31 x32 x33 x34 x35 x36 x37 y1 y2 y3 y4) 
theorem m21_0_0g (vf67_0 : Tf67_0) (vf75_0 : Tf75_0) (vf76_0 : Tf76_0)  (α : Type) (K : Exit → St → Option α) : F21_0_0 (J21_0_0g ) α K = p21_0_0.unc fun σ => runM Try.prog (E21_0g vf67_0 vf75_0 vf76_0) sh21 (c21_0_28g ) K σ := by kernel_rfl
theorem m21_0_0 : ∀ (α : Type) (K : Exit → St → Option α), F21_0_0 J21_0_0 α K = p21_0_0.unc fun σ => runM Try.prog E21_0 sh21 c21_0_28 K σ := m21_0_0g f67_0 f75_0 f76_0
noncomputable def c21_0_23g (vJ21_0_0 : TJ21_0_0) : MCode := (.seq (.region r21_25 [] (tO [2, 4, 7, 27, 28, 29, 30])) (.seq (.cond (.tmp 30) .skip (.exit 0)) (.seq (.mark [⟨p21_0_0, F21_0_0 vJ21_0_0⟩] c21_0_28) (.region r21_33 [] (tO [2, 4, 7, 27, 28, 29])))))
noncomputable def c21_0_23 : MCode := c21_0_23g J21_0_0
theorem g21_0_23 : c21_0_23.Good Try.prog E21_0 sh21 := ⟨trivial, ⟨⟨trivial, trivial⟩, ⟨⟨g21_0_28, m21_0_0, trivial⟩, trivial⟩⟩⟩
--CODE 23 0
def S21_0_1g (vJ21_0_0 : TJ21_0_0) (α : Type) (x10 : Int) (x20 : Rows) (x11 x21 x22 x23 x24 : Int) (kn : Int → Int → Int → Int → Int → Option α) (k1 : Int → Bool → Int → Int → Int → Int → Option α) : Option α :=
 cK (decide (x11 < x10))
 (vJ21_0_0 α x11 x20 x21 x22 x23 x24
 (fun x44 x45 x46 x47 => kn (w64 (x11 + 1)) x44 x45 x46 x47))
 (k1 x11 (decide (x11 < x10)) x21 x22 x23 x24)
noncomputable def S21_0_1 (α : Type) (x10 : Int) (x20 : Rows) (x11 x21 x22 x23 x24 : Int) (kn : Int → Int → Int → Int → Int → Option α) (k1 : Int → Bool → Int → Int → Int → Int → Option α) : Option α := S21_0_1g J21_0_0 α x10 x20 x11 x21 x22 x23 x24 kn k1
noncomputable def R21_0_1 (α : Type) (x10 : Int) (x20 : Rows) (k1 : Int → Bool → Int → Int → Int → Int → Option α) : Nat → Int → Int → Int → Int → Int → Option α
 | 0, _, _, _, _, _ => none
 | n + 1, x11, x21, x22, x23, x24 => S21_0_1 α x10 x20 x11 x21 x22 x23 x24 (R21_0_1 α x10 x20 k1 n) k1
noncomputable def L21_0_1 (α : Type) (x10 : Int) (x20 : Rows) (k1 : Int → Bool → Int → Int → Int → Int → Option α) (x11 x21 x22 x23 x24 : Int) : Option α := R21_0_1 α x10 x20 k1 fuel x11 x21 x22 x23 x24
abbrev TL21_0_1 : Type 1 := (α : Type) → Int → Rows → (Int → Bool → Int → Int → Int → Int → Option α) → Int → Int → Int → Int → Int → Option α
def F21_0_1 (v : TL21_0_1) (α : Type) (K : Exit → St → Option α) : Int → Int → Int → Int → Int → Int → Int → Int → Int → Int → Rows → Int → Int → Int → Int → Option α := fun x10 x11 x12 x13 x14 x15 x16 x17 x18 x19 x20 x21 x22 x23 x24 => v α x10 x20 (fun (y1 : Int) (y2 : Bool) (y3 : Int) (y4 : Int) (y5 : Int) (y6 : Int) => u21_0_0 (K (.exit 0)) x10 y1 y2 x12 x13 x14 x15 x16 x17 x18 x19 x20 y3 y4 y5 y6) x11 x21 x22 x23 x24
theorem r21_0_1g (vf67_0 : Tf67_0) (vf75_0 : Tf75_0) (vf76_0 : Tf76_0) (vJ21_0_0 : TJ21_0_0) (α : Type) (K : Exit → St → Option α) (Kn : St → Option α) (x10 x11 x12 x13 x14 x15 x16 x17 x18 x19 : Int) (x20 : Rows) (x21 x22 x23 x24 : Int) : u21_0_1 (fun σ => runM Try.prog (E21_0g vf67_0 vf75_0 vf76_0) sh21 (c21_0_23g vJ21_0_0) (thenK (fun σ => tidyK td21_23 σ Kn) K) σ) x10 x11 x12 x13 x14 x15 x16 x17 x18 x19 x20 x21 x22 x23 x24 = S21_0_1g vJ21_0_0 α x10 x20 x11 x21 x22 x23 x24 (fun x11 x21 x22 x23 x24 => u21_0_1 Kn x10 x11 x12 x13 x14 x15 x16 x17 x18 x19 x20 x21 x22 x23 x24) (fun (y1 : Int) (y2 : Bool) (y3 : Int) (y4 : Int) (y5 : Int) (y6 : Int) => u21_0_0 (K (.exit 0)) x10 y1 y2 x12 x13 x14 x15 x16 x17 x18 x19 x20 y3 y4 y5 y6) := by kernel_rfl
theorem r21_0_1 (α : Type) (K : Exit → St → Option α) (Kn : St → Option α) (x10 x11 x12 x13 x14 x15 x16 x17 x18 x19 : Int) (x20 : Rows) (x21 x22 x23 x24 : Int) : u21_0_1 (fun σ => runM Try.prog E21_0 sh21 c21_0_23 (thenK (fun σ => tidyK td21_23 σ Kn) K) σ) x10 x11 x12 x13 x14 x15 x16 x17 x18 x19 x20 x21 x22 x23 x24 = S21_0_1 α x10 x20 x11 x21 x22 x23 x24 (fun x11 x21 x22 x23 x24 => u21_0_1 Kn x10 x11 x12 x13 x14 x15 x16 x17 x18 x19 x20 x21 x22 x23 x24) (fun (y1 : Int) (y2 : Bool) (y3 : Int) (y4 : Int) (y5 : Int) (y6 : Int) => u21_0_0 (K (.exit 0)) x10 y1 y2 x12 x13 x14 x15 x16 x17 x18 x19 x20 y3 y4 y5 y6) := r21_0_1g f67_0 f75_0 f76_0 J21_0_0 α K Kn x10 x11 x12 x13 x14 x15 x16 x17 x18 x19 x20 x21 x22 x23 x24
theorem t21_0_1 (α : Type) (K : Exit → St → Option α) : ∀ (n : Nat) (x10 x11 x12 x13 x14 x15 x16 x17 x18 x19 : Int) (x20 : Rows) (x21 x22 x23 x24 : Int), R21_0_1 α x10 x20 (fun (y1 : Int) (y2 : Bool) (y3 : Int) (y4 : Int) (y5 : Int) (y6 : Int) => u21_0_0 (K (.exit 0)) x10 y1 y2 x12 x13 x14 x15 x16 x17 x18 x19 x20 y3 y4 y5 y6) n x11 x21 x22 x23 x24 = u21_0_1 (loopT (runM Try.prog E21_0 sh21 c21_0_23) td21_23 K n) x10 x11 x12 x13 x14 x15 x16 x17 x18 x19 x20 x21 x22 x23 x24 := by
 intro n
 induction n with
 | zero => intros; rfl
 | succ n ih => intro x10 x11 x12 x13 x14 x15 x16 x17 x18 x19 x20 x21 x22 x23 x24; exact (congrArg (fun kn => S21_0_1 α x10 x20 x11 x21 x22 x23 x24 kn (fun (y1 : Int) (y2 : Bool) (y3 : Int) (y4 : Int) (y5 : Int) (y6 : Int) => u21_0_0 (K (.exit 0)) x10 y1 y2 x12 x13 x14 x15 x16 x17 x18 x19 x20 y3 y4 y5 y6)) (funext fun x11 => funext fun x21 => funext fun x22 => funext fun x23 => funext fun x24 => ih x10 x11 x12 x13 x14 x15 x16 x17 x18 x19 x20 x21 x22 x23 x24)).trans (r21_0_1 α K (loopT (runM Try.prog E21_0 sh21 c21_0_23) td21_23 K n) x10 x11 x12 x13 x14 x15 x16 x17 x18 x19 x20 x21 x22 x23 x24).symm
theorem m21_0_1 : ∀ (α : Type) (K : Exit → St → Option α), F21_0_1 L21_0_1 α K = p21_0_1.unc fun σ => loopT (runM Try.prog E21_0 sh21 c21_0_23) td21_23 K fuel σ := fun α K => funext fun x10 => funext fun x11 => funext fun x12 => funext fun x13 => funext fun x14 => funext fun x15 => funext fun x16 => funext fun x17 => funext fun x18 => funext fun x19 => funext fun x20 => funext fun x21 => funext fun x22 => funext fun x23 => funext fun x24 => t21_0_1 α K fuel x10 x11 x12 x13 x14 x15 x16 x17 x18 x19 x20 x21 x22 x23 x24
abbrev Tf21_0 : Type 1 := (α : Type) → Rows → Int → Int → (Int → Int → Int → Int → Int → Int → Int → Option α) → Option α
def f21_0g (vL21_0_1 : TL21_0_1) (vf67_0 : Tf67_0) (vf75_0 : Tf75_0) (vf76_0 : Tf76_0) (α : Type) (x1 : Rows) (x2 x3 : Int) (k1 : Int → Int → Int → Int → Int → Int → Int → Option α) : Option α :=
 vf67_0 α x1 x2 x3
 (fun x4 x5 x6 x7 x8 => cK (x8 != 0)
 (k1 0 0 0 0 0 0 x8)
 (vf75_0 α x4 x5 x6
 (fun x9 => flatK [x9]
 (cK (decide (0 < ((List.length x9 : Nat) : Int)))
 (k1 0 0 0 0 0 0 16)
 (vL21_0_1 α ((List.length x4 : Nat) : Int) x4
 (fun x49 x50 x51 x52 x53 x54 => vf76_0 α (w64 ((w64 ((w64 (x51 + x52)) + x53)) + x54)) (w64 (((List.length x4 : Nat) : Int) * x5))
 (fun x56 x57 => vf76_0 α (w64 (x51 - x53)) (w64 ((w64 (Int.tdiv ((List.length x4 : Nat) : Int) 2)) * x5))
 (fun x58 x59 => vf76_0 α (w64 (x52 - x54)) (w64 ((w64 (Int.tdiv ((List.length x4 : Nat) : Int) 2)) * x5))
 (fun x60 x61 => k1 x56 x57 x58 x59 x60 x61 0)))) 0 0 0 0 0)))))
noncomputable def f21_0 (α : Type) (x1 : Rows) (x2 x3 : Int) (k1 : Int → Int → Int → Int → Int → Int → Int → Option α) : Option α := f21_0g L21_0_1 f67_0 f75_0 f76_0 α x1 x2 x3 k1
def pa21_0 : PT (List DV) := pA [pV true [dL, (dI .i64), (dI .i64)]]
def Fn21_0 (v : Tf21_0) (α : Type) (k : List RV → Option α) : Rows → Int → Int → Option α := fun x1 x2 x3 => v α x1 x2 x3 (fun (y1 : Int) (y2 : Int) (y3 : Int) (y4 : Int) (y5 : Int) (y6 : Int) (y7 : Int) => ur21_0_0 k y1 y2 y3 y4 y5 y6 y7)
noncomputable def cm21_0g (vL21_0_1 : TL21_0_1) : MCode := (.seq (.region r21_2 [] (tO [1, 2])) (.seq (.region r21_4 [] (tO [2, 4, 6])) (.seq (.seq (.region r21_7 [] (tO [2, 4, 6, 18])) (.cond (.tmp 18) (.seq (.region r21_10 [] (tO [2, 3])) .ret) .skip)) (.seq (.seq (.region r21_13 [] (tO [2, 4, 24])) (.cond (.tmp 24) (.seq (.region r21_16 [] (tO [2, 3])) .ret) .skip)) (.seq (.region r21_18 [] (tO [2, 4, 7])) (.seq (.seq (.region r21_21 [] (tO [2, 4, 7, 27, 28, 29])) (.block 0 (.loop td21_23 [⟨p21_0_1, F21_0_1 vL21_0_1⟩] c21_0_23))) (.seq (.region r21_35 [] (tO [2, 4, 7, 10])) (.seq (.region r21_37 [(15, 17), (15, 19), (15, 24), (15, 28), (26, 28), (15, 30), (26, 30), (15, 35), (26, 35)] (tO [2, 3])) .ret))))))))
noncomputable def cm21_0 : MCode := cm21_0g L21_0_1
theorem gm21_0 : cm21_0.Good Try.prog E21_0 sh21 := ⟨trivial, ⟨trivial, ⟨⟨trivial, ⟨⟨trivial, trivial⟩, trivial⟩⟩, ⟨⟨trivial, ⟨⟨trivial, trivial⟩, trivial⟩⟩, ⟨trivial, ⟨⟨trivial, ⟨g21_0_23, m21_0_1, trivial⟩⟩, ⟨trivial, ⟨trivial, trivial⟩⟩⟩⟩⟩⟩⟩⟩
theorem fm21_0g (vf67_0 : Tf67_0) (vf75_0 : Tf75_0) (vf76_0 : Tf76_0) (vL21_0_1 : TL21_0_1) (α : Type) (k : List RV → Option α) : Fn21_0 (f21_0g vL21_0_1 vf67_0 vf75_0 vf76_0) α k = pa21_0.unc fun ds => fnM Try.prog (E21_0g vf67_0 vf75_0 vf76_0) sh21 (cm21_0g vL21_0_1) rs21 k ds := by kernel_rfl
theorem fm21_0 : ∀ (α : Type) (k : List RV → Option α), Fn21_0 f21_0 α k = pa21_0.unc fun ds => fnM Try.prog E21_0 sh21 cm21_0 rs21 k ds := fm21_0g f67_0 f75_0 f76_0 L21_0_1
theorem is21 : FnIs Try.prog 21 nt21 tr21 tl21 cm21_0.erase rs21 := ⟨Try.f21, Try.func21, rfl, by kernel_rfl, by kernel_rfl, by kernel_rfl⟩
theorem io21_0 : InstOk Try.prog 21 nt21 ⟨pa21_0, Fn21_0 f21_0⟩ := inst_ok eo21_0 followsTry is21 ⟨⟨sh21, cm21_0, by kernel_rfl, gm21_0, fm21_0⟩⟩
abbrev nt16 : Nat := 47
def sh16 : List (Nat × List Sh) := [(13, [.sl, .int .i64, .int .i64]), (23, [.sl]), (27, [.int .i64]), (28, [.int .i64]), (46, [.cpx .f64, .cpx .f64, .cpx .f64, .cpx .f64])]
def r16_2 : List AOper := [oO 1 (.box (.tmp 0)), oO 2 (.alloc [(.d (.v (.complex Go.FloatKind.f64 0 0))), (.d (.v (.complex Go.FloatKind.f64 0 0))), (.d (.v (.complex Go.FloatKind.f64 0 0))), (.d (.v (.complex Go.FloatKind.f64 0 0)))]), oO 3 (.mv (kI 0))]
def r16_4 : List AOper := [oO 13 (.load true 3 (.tmp 1)), oO 14 (.call 67 [(.tmp 13)]), oM 12 14, oO 15 (.extract 0 (.tmp 12)), oO 16 (.extract 1 (.tmp 12)), oO 17 (.extract 2 (.tmp 12)), oO 4 (.alloc [.nils, (cI 0), (cI 0)]), oD (.store 3 (.tmp 4) (.tmp 15)), oM 5 16, oM 6 17]
def r16_7 : List AOper := [oM 18 6, oO 19 (.bin .neq 28 (.tmp 18) (kI 0))]
def r16_10 : List AOper := [oO 20 (.build [(.d (.v (.complex Go.FloatKind.f64 0 0))), (.d (.v (.complex Go.FloatKind.f64 0 0))), (.d (.v (.complex Go.FloatKind.f64 0 0))), (.d (.v (.complex Go.FloatKind.f64 0 0)))] []), oM 21 6, oD (.store 4 (.tmp 2) (.tmp 20)), oM 3 21]
def r16_12 : List AOper := [oO 7 (.mv (.const (.slice none 0 0)))]
def r16_15 : List AOper := [oO 22 (.faddr 0 (.tmp 4)), oO 23 (.load false 1 (.tmp 22)), oO 24 (.len (.tmp 23)), oO 25 (.mv (kI 0))]
def td16_17 : Option Tidy := (some ⟨[2, 7, 23, 24, 25], true, [⟨false, 7, 0, 20007, 2⟩, ⟨false, 23, 0, 20023, 1⟩, ⟨true, 1, 0, 30100, 1⟩, ⟨true, 4, 0, 30400, 1⟩], []⟩)
def r16_19 : List AOper := [oO 26 (.bin .lss 3 (.tmp 25) (.tmp 24))]
def r16_25 : List AOper := [oO 27 (.iaddr 1 none (.tmp 23) (.tmp 25)), oO 28 (.load false 1 (.tmp 27)), oM 9 28]
def r16_26 : List AOper := [oM 29 7, oM 30 9, oO 31 (.build [(cI 0), (cI 0)] [(0, 1, (.tmp 30)), (1, 1, (kI 0))]), oO 32 (.bslice 2 1 [(.v (.int .i64 0)), (.v (.int .i64 0))] [(0, (.tmp 31))]), oO 33 (.append 2 16 (.tmp 29) (.tmp 32)), oM 7 33]
def r16_27 : List AOper := [oO 34 (.bin .add 3 (.tmp 25) (kI 1)), oM 25 34]
def r16_29 : List AOper := [oO 10 (.alloc [(.d (.v (.complex Go.FloatKind.f64 0 0))), (.d (.v (.complex Go.FloatKind.f64 0 0))), (.d (.v (.complex Go.FloatKind.f64 0 0))), (.d (.v (.complex Go.FloatKind.f64 0 0)))])]
def r16_32 : List AOper := [oO 35 (.mv (kI 0))]
def td16_34 : Option Tidy := (some ⟨[2, 7, 10, 35], true, [⟨false, 7, 0, 20007, 2⟩, ⟨true, 1, 0, 30100, 1⟩, ⟨true, 4, 0, 30400, 1⟩], []⟩)
def r16_36 : List AOper := [oO 36 (.bin .lss 3 (.tmp 35) (kI 4))]
def r16_42 : List AOper := [oM 37 35, oM 11 37]
def r16_43 : List AOper := [oM 38 11, oM 39 7, oM 40 11, oO 41 (.pure (oB (.unOp .neg 3 (.tmp 40)) 3)), oO 42 (.call 68 [(.tmp 39), (.tmp 41)]), oO 43 (.call 69 [(.tmp 42)]), oO 44 (.iaddr 1 (some 4) (.tmp 10) (.tmp 38)), oD (.store 1 (.tmp 44) (.tmp 43))]
def r16_44 : List AOper := [oO 45 (.bin .add 3 (.tmp 35) (kI 1)), oM 35 45]
def r16_46 : List AOper := [oO 46 (.load true 4 (.tmp 10)), oD (.store 4 (.tmp 2) (.tmp 46)), oO 3 (.mv (kI 0))]
def tr16 : List (Nat × Tidy) := [tT 0 [1, 2], tT 1 [2, 4, 6], tT 2 [2, 4, 6, 19], tT 3 [2, 3], tT 4 [2, 4, 7], tT 5 [2, 7, 23, 24, 25], tT 6 [2, 7, 23, 24, 25, 26], tT 7 [2, 7, 9, 23, 24, 25], tT 8 [2, 7, 23, 24, 25], tT 9 [2, 7, 23, 24, 25], tT 10 [2, 7, 10], tT 11 [2, 7, 10, 35], tT 12 [2, 7, 10, 35, 36], tT 13 [2, 7, 10, 11, 35], tT 14 [2, 7, 10, 35], tT 15 [2, 7, 10, 35], tT 16 [2, 3]]
def tl16 : List (Nat × Tidy) := [(6, ⟨[2, 7, 23, 24, 25], true, [⟨false, 7, 0, 20007, 2⟩, ⟨false, 23, 0, 20023, 1⟩, ⟨true, 1, 0, 30100, 1⟩, ⟨true, 4, 0, 30400, 1⟩], []⟩), (12, ⟨[2, 7, 10, 35], true, [⟨false, 7, 0, 20007, 2⟩, ⟨true, 1, 0, 30100, 1⟩, ⟨true, 4, 0, 30400, 1⟩], []⟩)]
def rs16 : List AResV := [.cell 2 true 4, .tmp 3]
def p16_0_0 : PT St := pS [sl 2 (aV false [(cPtr 2 0)]), sl 7 (aV false [(cRef 20007)]), sl 23 (aV false [(cRef 20023)]), sl 24 (aV false [(cD (dI .i64))]), sl 25 (aV false [(cD (dI .i64))])] [eBox 2 [(cD (dX .f64)), (cD (dX .f64)), (cD (dX .f64)), (cD (dX .f64))], eOwn 20007 2, eOwn 20023 1]
def u16_0_0 {β : Type} (g : St → β) : Int → Int → Nat → Nat → Nat → Nat → Nat → Nat → Nat → Nat → Rows → Rows → β := p16_0_0.unc g
def p16_0_1 : PT St := pS [sl 2 (aV false [(cPtr 2 0)]), sl 7 (aV false [(cRef 20007)]), sl 23 (aV false [(cRef 20023)]), sl 24 (aV false [(cD (dI .i64))]), sl 25 (aV false [(cD (dI .i64))]), sl 26 (aV false [(cD dB)])] [eBox 2 [(cD (dX .f64)), (cD (dX .f64)), (cD (dX .f64)), (cD (dX .f64))], eOwn 20007 2, eOwn 20023 1]
def u16_0_1 {β : Type} (g : St → β) : Int → Int → Bool → Nat → Nat → Nat → Nat → Nat → Nat → Nat → Nat → Rows → Rows → β := p16_0_1.unc g
def pr16_0_0 : PT (List RV) := pRs [pR true [rD (dX .f64), rD (dX .f64), rD (dX .f64), rD (dX .f64)], pR false [rD (dI .i64)]]
def ur16_0_0 {β : Type} (g : List RV → β) : Nat → Nat → Nat → Nat → Nat → Nat → Nat → Nat → Int → β := pr16_0_0.unc g
def E16_0g (vf67_0 : Tf67_0) (vf68_0 : Tf68_0) (vf69_0 : Tf69_0) : EnvK := EnvK.of [⟨67, nt67, [⟨pa67_0, Fn67_0 vf67_0⟩]⟩, ⟨68, nt68, [⟨pa68_0, Fn68_0 vf68_0⟩]⟩, ⟨69, nt69, [⟨pa69_0, Fn69_0 vf69_0⟩]⟩] noSeq
noncomputable def E16_0 : EnvK := E16_0g f67_0 f68_0 f69_0
theorem eo16_0 : E16_0.Ok Try.prog := EnvK.of_ok noSeq_ok ⟨⟨io67_0, trivial⟩, ⟨io68_0, trivial⟩, ⟨io69_0, trivial⟩, trivial⟩
noncomputable def c16_0_17g  : MCode := (.seq (.region r16_19 [] (tO [2, 7, 23, 24, 25, 26])) (.seq (.cond (.tmp 26) .skip (.exit 0)) (.seq (.block 1 (.seq (.region r16_25 [] (tO [2, 7, 9, 23, 24, 25])) (.region r16_26 [] (tO [2, 7, 23, 24, 25])))) (.region r16_27 [] (tO [2, 7, 23, 24, 25])))))
noncomputable def c16_0_17 : MCode := c16_0_17g 
theorem g16_0_17 : c16_0_17.Good Try.prog E16_0 sh16 := ⟨trivial, ⟨⟨trivial, trivial⟩, ⟨⟨trivial, trivial⟩, trivial⟩⟩⟩
--CODE 17 0
def S16_0_0g  (α : Type) (x9 : Int) (x20 : Rows) (x10 : Int) (x19 : Rows) (kn : Int → Rows → Option α) (k1 : Int → Bool → Rows → Option α) : Option α :=
 cK (decide (x10 < x9))
 (ixK x20 x10 1
 (ldK x20 (Int.toNat x10) 0 [.int .i64]
 (fun x22 => gK (apOk 2 16 x19 [[DC.v (.int .i64 x22), DC.v (.int .i64 0)]]) (kn (w64 (x10 + 1)) (x19 ++ [[DC.v (.int .i64 x22), DC.v (.int .i64 0)]])))))
 (k1 x10 (decide (x10 < x9)) x19)
noncomputable def S16_0_0 (α : Type) (x9 : Int) (x20 : Rows) (x10 : Int) (x19 : Rows) (kn : Int → Rows → Option α) (k1 : Int → Bool → Rows → Option α) : Option α := S16_0_0g  α x9 x20 x10 x19 kn k1
noncomputable def R16_0_0 (α : Type) (x9 : Int) (x20 : Rows) (k1 : Int → Bool → Rows → Option α) : Nat → Int → Rows → Option α
 | 0, _, _ => none
 | n + 1, x10, x19 => S16_0_0 α x9 x20 x10 x19 (R16_0_0 α x9 x20 k1 n) k1
noncomputable def L16_0_0 (α : Type) (x9 : Int) (x20 : Rows) (k1 : Int → Bool → Rows → Option α) (x10 : Int) (x19 : Rows) : Option α := R16_0_0 α x9 x20 k1 fuel x10 x19
abbrev TL16_0_0 : Type 1 := (α : Type) → Int → Rows → (Int → Bool → Rows → Option α) → Int → Rows → Option α
def F16_0_0 (v : TL16_0_0) (α : Type) (K : Exit → St → Option α) : Int → Int → Nat → Nat → Nat → Nat → Nat → Nat → Nat → Nat → Rows → Rows → Option α := fun x9 x10 x11 x12 x13 x14 x15 x16 x17 x18 x19 x20 => v α x9 x20 (fun (y1 : Int) (y2 : Bool) (y3 : Rows) => u16_0_1 (K (.exit 0)) x9 y1 y2 x11 x12 x13 x14 x15 x16 x17 x18 y3 x20) x10 x19
theorem r16_0_0g (vf67_0 : Tf67_0) (vf68_0 : Tf68_0) (vf69_0 : Tf69_0)  (α : Type) (K : Exit → St → Option α) (Kn : St → Option α) (x9 x10 : Int) (x11 x12 x13 x14 x15 x16 x17 x18 : Nat) (x19 x20 : Rows) : u16_0_0 (fun σ => runM Try.prog (E16_0g vf67_0 vf68_0 vf69_0) sh16 (c16_0_17g ) (thenK (fun σ => tidyK td16_17 σ Kn) K) σ) x9 x10 x11 x12 x13 x14 x15 x16 x17 x18 x19 x20 = S16_0_0g  α x9 x20 x10 x19 (fun x10 x19 => u16_0_0 Kn x9 x10 x11 x12 x13 x14 x15 x16 x17 x18 x19 x20) (fun (y1 : Int) (y2 : Bool) (y3 : Rows) => u16_0_1 (K (.exit 0)) x9 y1 y2 x11 x12 x13 x14 x15 x16 x17 x18 y3 x20) := by kernel_rfl
theorem r16_0_0 (α : Type) (K : Exit → St → Option α) (Kn : St → Option α) (x9 x10 : Int) (x11 x12 x13 x14 x15 x16 x17 x18 : Nat) (x19 x20 : Rows) : u16_0_0 (fun σ => runM Try.prog E16_0 sh16 c16_0_17 (thenK (fun σ => tidyK td16_17 σ Kn) K) σ) x9 x10 x11 x12 x13 x14 x15 x16 x17 x18 x19 x20 = S16_0_0 α x9 x20 x10 x19 (fun x10 x19 => u16_0_0 Kn x9 x10 x11 x12 x13 x14 x15 x16 x17 x18 x19 x20) (fun (y1 : Int) (y2 : Bool) (y3 : Rows) => u16_0_1 (K (.exit 0)) x9 y1 y2 x11 x12 x13 x14 x15 x16 x17 x18 y3 x20) := r16_0_0g f67_0 f68_0 f69_0 α K Kn x9 x10 x11 x12 x13 x14 x15 x16 x17 x18 x19 x20
theorem t16_0_0 (α : Type) (K : Exit → St → Option α) : ∀ (n : Nat) (x9 x10 : Int) (x11 x12 x13 x14 x15 x16 x17 x18 : Nat) (x19 x20 : Rows), R16_0_0 α x9 x20 (fun (y1 : Int) (y2 : Bool) (y3 : Rows) => u16_0_1 (K (.exit 0)) x9 y1 y2 x11 x12 x13 x14 x15 x16 x17 x18 y3 x20) n x10 x19 = u16_0_0 (loopT (runM Try.prog E16_0 sh16 c16_0_17) td16_17 K n) x9 x10 x11 x12 x13 x14 x15 x16 x17 x18 x19 x20 := by
 intro n
 induction n with
 | zero => intros; rfl
 | succ n ih => intro x9 x10 x11 x12 x13 x14 x15 x16 x17 x18 x19 x20; exact (congrArg (fun kn => S16_0_0 α x9 x20 x10 x19 kn (fun (y1 : Int) (y2 : Bool) (y3 : Rows) => u16_0_1 (K (.exit 0)) x9 y1 y2 x11 x12 x13 x14 x15 x16 x17 x18 y3 x20)) (funext fun x10 => funext fun x19 => ih x9 x10 x11 x12 x13 x14 x15 x16 x17 x18 x19 x20)).trans (r16_0_0 α K (loopT (runM Try.prog E16_0 sh16 c16_0_17) td16_17 K n) x9 x10 x11 x12 x13 x14 x15 x16 x17 x18 x19 x20).symm
theorem m16_0_0 : ∀ (α : Type) (K : Exit → St → Option α), F16_0_0 L16_0_0 α K = p16_0_0.unc fun σ => loopT (runM Try.prog E16_0 sh16 c16_0_17) td16_17 K fuel σ := fun α K => funext fun x9 => funext fun x10 => funext fun x11 => funext fun x12 => funext fun x13 => funext fun x14 => funext fun x15 => funext fun x16 => funext fun x17 => funext fun x18 => funext fun x19 => funext fun x20 => t16_0_0 α K fuel x9 x10 x11 x12 x13 x14 x15 x16 x17 x18 x19 x20
abbrev Tf16_0 : Type 1 := (α : Type) → Rows → Int → Int → (Nat → Nat → Nat → Nat → Nat → Nat → Nat → Nat → Int → Option α) → Option α
def f16_0g (vL16_0_0 : TL16_0_0) (vf67_0 : Tf67_0) (vf68_0 : Tf68_0) (vf69_0 : Tf69_0) (α : Type) (x1 : Rows) (x2 x3 : Int) (k1 : Nat → Nat → Nat → Nat → Nat → Nat → Nat → Nat → Int → Option α) : Option α :=
 vf67_0 α x1 x2 x3
 (fun x4 x5 x6 x7 x8 => cK (x8 != 0)
 (k1 0 0 0 0 0 0 0 0 x8)
 (vL16_0_0 α ((List.length x4 : Nat) : Int) x4
 (fun x23 x24 x25 => vf68_0 α x25 0
 (fun x27 x28 => vf69_0 α x27 x28
 (fun x29 x30 => vf68_0 α x25 (-1)
 (fun x31 x32 => vf69_0 α x31 x32
 (fun x33 x34 => vf68_0 α x25 (-2)
 (fun x35 x36 => vf69_0 α x35 x36
 (fun x37 x38 => vf68_0 α x25 (-3)
 (fun x39 x40 => vf69_0 α x39 x40
 (fun x41 x42 => k1 x29 x30 x33 x34 x37 x38 x41 x42 0))))))))) 0 ([] : Rows)))
noncomputable def f16_0 (α : Type) (x1 : Rows) (x2 x3 : Int) (k1 : Nat → Nat → Nat → Nat → Nat → Nat → Nat → Nat → Int → Option α) : Option α := f16_0g L16_0_0 f67_0 f68_0 f69_0 α x1 x2 x3 k1
def pa16_0 : PT (List DV) := pA [pV true [dL, (dI .i64), (dI .i64)]]
def Fn16_0 (v : Tf16_0) (α : Type) (k : List RV → Option α) : Rows → Int → Int → Option α := fun x1 x2 x3 => v α x1 x2 x3 (fun (y1 : Nat) (y2 : Nat) (y3 : Nat) (y4 : Nat) (y5 : Nat) (y6 : Nat) (y7 : Nat) (y8 : Nat) (y9 : Int) => ur16_0_0 k y1 y2 y3 y4 y5 y6 y7 y8 y9)
noncomputable def cm16_0g (vL16_0_0 : TL16_0_0) : MCode := (.seq (.region r16_2 [] (tO [1, 2])) (.seq (.region r16_4 [] (tO [2, 4, 6])) (.seq (.seq (.region r16_7 [] (tO [2, 4, 6, 19])) (.cond (.tmp 19) (.seq (.region r16_10 [] (tO [2, 3])) .ret) .skip)) (.seq (.region r16_12 [] (tO [2, 4, 7])) (.seq (.seq (.region r16_15 [] (tO [2, 7, 23, 24, 25])) (.block 0 (.loop td16_17 [⟨p16_0_0, F16_0_0 vL16_0_0⟩] c16_0_17))) (.seq (.region r16_29 [] (tO [2, 7, 10])) (.seq (.seq (.region r16_32 [] (tO [2, 7, 10, 35])) (.block 2 (.loopU 5 td16_34 (.seq (.region r16_36 [] (tO [2, 7, 10, 35, 36])) (.seq (.cond (.tmp 36) .skip (.exit 2)) (.seq (.block 3 (.seq (.region r16_42 [] (tO [2, 7, 10, 11, 35])) (.region r16_43 [] (tO [2, 7, 10, 35])))) (.region r16_44 [] (tO [2, 7, 10, 35])))))))) (.seq (.region r16_46 [] (tO [2, 3])) .ret))))))))
noncomputable def cm16_0 : MCode := cm16_0g L16_0_0
theorem gm16_0 : cm16_0.Good Try.prog E16_0 sh16 := ⟨trivial, ⟨trivial, ⟨⟨trivial, ⟨⟨trivial, trivial⟩, trivial⟩⟩, ⟨trivial, ⟨⟨trivial, ⟨g16_0_17, m16_0_0, trivial⟩⟩, ⟨trivial, ⟨⟨trivial, ⟨⟨trivial, ⟨⟨trivial, trivial⟩, ⟨⟨trivial, trivial⟩, trivial⟩⟩⟩, by decide⟩⟩, ⟨trivial, trivial⟩⟩⟩⟩⟩⟩⟩⟩
theorem fm16_0g (vf67_0 : Tf67_0) (vf68_0 : Tf68_0) (vf69_0 : Tf69_0) (vL16_0_0 : TL16_0_0) (α : Type) (k : List RV → Option α) : Fn16_0 (f16_0g vL16_0_0 vf67_0 vf68_0 vf69_0) α k = pa16_0.unc fun ds => fnM Try.prog (E16_0g vf67_0 vf68_0 vf69_0) sh16 (cm16_0g vL16_0_0) rs16 k ds := by kernel_rfl
theorem fm16_0 : ∀ (α : Type) (k : List RV → Option α), Fn16_0 f16_0 α k = pa16_0.unc fun ds => fnM Try.prog E16_0 sh16 cm16_0 rs16 k ds := fm16_0g f67_0 f68_0 f69_0 L16_0_0
theorem is16 : FnIs Try.prog 16 nt16 tr16 tl16 cm16_0.erase rs16 := ⟨Try.f16, Try.func16, rfl, by kernel_rfl, by kernel_rfl, by kernel_rfl⟩
theorem io16_0 : InstOk Try.prog 16 nt16 ⟨pa16_0, Fn16_0 f16_0⟩ := inst_ok eo16_0 followsTry is16 ⟨⟨sh16, cm16_0, by kernel_rfl, gm16_0, fm16_0⟩⟩
abbrev nt96 : Nat := 21
def sh96 : List (Nat × List Sh) := [(12, [.int .i64, .int .i64]), (13, [.int .i64, .int .i64]), (14, [.int .i64, .int .i64])]
def r96_2 : List AOper := [oO 4 (.mv (kI 0))]
def r96_5 : List AOper := [oM 8 1, oO 9 (.len (.tmp 8)), oO 10 (.mv (kI 0))]
def td96_7 : Option Tidy := (some ⟨[0, 8, 9, 10], true, [⟨false, 8, 0, 20008, 2⟩], []⟩)
def r96_9 : List AOper := [oO 11 (.bin .lss 3 (.tmp 10) (.tmp 9))]
def r96_15 : List AOper := [oO 12 (.iaddr 2 none (.tmp 8) (.tmp 10)), oO 13 (.load true 2 (.tmp 12)), oO 6 (.alloc [(cI 0), (cI 0)]), oD (.store 2 (.tmp 6) (.tmp 13))]
def r96_17 : List AOper := [oO 14 (.load true 2 (.tmp 6)), oM 15 0, oO 16 (.call 125 [(.tmp 14), (.tmp 15)]), oM 7 16]
def r96_19 : List AOper := [oM 17 7, oO 18 (.bin .neq 28 (.tmp 17) (kI 0))]
def r96_22 : List AOper := [oM 19 7, oM 4 19]
def r96_23 : List AOper := [oO 20 (.bin .add 3 (.tmp 10) (kI 1)), oM 10 20]
def r96_25 : List AOper := [oO 4 (.mv (kI 0))]
def tr96 : List (Nat × Tidy) := [tT 0 [0, 1], tT 1 [0, 8, 9, 10], tT 2 [0, 8, 9, 10, 11], tT 3 [0, 6, 8, 9, 10], tT 4 [0, 7, 8, 9, 10], tT 5 [0, 7, 8, 9, 10, 18], tT 6 [4], tT 7 [0, 8, 9, 10], tT 8 [4]]
def tl96 : List (Nat × Tidy) := [(2, ⟨[0, 8, 9, 10], true, [⟨false, 8, 0, 20008, 2⟩], []⟩)]
def rs96 : List AResV := [.tmp 4]
def p96_0_0 : PT St := pS [sl 0 (aV false [(cD (dI .i64))]), sl 8 (aV false [(cD dL)]), sl 9 (aV false [(cD (dI .i64))]), sl 10 (aV false [(cD (dI .i64))])] []
def u96_0_0 {β : Type} (g : St → β) : Int → Rows → Int → Int → β := p96_0_0.unc g
def p96_0_1 : PT St := pS [sl 4 (aV false [(cD (dI .i64))])] []
def u96_0_1 {β : Type} (g : St → β) : Int → β := p96_0_1.unc g
def p96_0_2 : PT St := pS [sl 0 (aV false [(cD (dI .i64))]), sl 8 (aV false [(cD dL)]), sl 9 (aV false [(cD (dI .i64))]), sl 10 (aV false [(cD (dI .i64))]), sl 11 (aV false [(cD dB)])] []
def u96_0_2 {β : Type} (g : St → β) : Int → Rows → Int → Int → Bool → β := p96_0_2.unc g
def pr96_0_0 : PT (List RV) := pRs [pR false [rD (dI .i64)]]
def ur96_0_0 {β : Type} (g : List RV → β) : Int → β := pr96_0_0.unc g
def E96_0g (vf125_0 : Tf125_0) : EnvK := EnvK.of [⟨125, nt125, [⟨pa125_0, Fn125_0 vf125_0⟩]⟩] noSeq
noncomputable def E96_0 : EnvK := E96_0g f125_0
theorem eo96_0 : E96_0.Ok Try.prog := EnvK.of_ok noSeq_ok ⟨⟨io125_0, trivial⟩, trivial⟩
noncomputable def c96_0_7g  : MCode := (.seq (.region r96_9 [] (tO [0, 8, 9, 10, 11])) (.seq (.cond (.tmp 11) .skip (.exit 0)) (.seq (.block 1 (.seq (.region r96_15 [] (tO [0, 6, 8, 9, 10])) (.seq (.region r96_17 [] (tO [0, 7, 8, 9, 10])) (.seq (.region r96_19 [] (tO [0, 7, 8, 9, 10, 18])) (.cond (.tmp 18) (.seq (.region r96_22 [] (tO [4])) .ret) .skip))))) (.region r96_23 [] (tO [0, 8, 9, 10])))))
noncomputable def c96_0_7 : MCode := c96_0_7g 
theorem g96_0_7 : c96_0_7.Good Try.prog E96_0 sh96 := ⟨trivial, ⟨⟨trivial, trivial⟩, ⟨⟨trivial, ⟨trivial, ⟨trivial, ⟨⟨trivial, trivial⟩, trivial⟩⟩⟩⟩, trivial⟩⟩⟩
--CODE 7 0
def S96_0_0g (vf125_0 : Tf125_0) (α : Type) (x3 : Int) (x4 : Rows) (x5 x6 : Int) (kn : Int → Option α) (k1 : Int → Option α) (k2 : Int → Bool → Option α) : Option α :=
 cK (decide (x6 < x5))
 (rowK x4 x6 [.int .i64, .int .i64]
 (fun x8 x9 => vf125_0 α x8 x9 x3
 (fun x10 => cK (x10 != 0)
 (k1 x10)
 (kn (w64 (x6 + 1))))))
 (k2 x6 (decide (x6 < x5)))
noncomputable def S96_0_0 (α : Type) (x3 : Int) (x4 : Rows) (x5 x6 : Int) (kn : Int → Option α) (k1 : Int → Option α) (k2 : Int → Bool → Option α) : Option α := S96_0_0g f125_0 α x3 x4 x5 x6 kn k1 k2
noncomputable def R96_0_0 (α : Type) (x3 : Int) (x4 : Rows) (x5 : Int) (k1 : Int → Option α) (k2 : Int → Bool → Option α) : Nat → Int → Option α
 | 0, _ => none
 | n + 1, x6 => S96_0_0 α x3 x4 x5 x6 (R96_0_0 α x3 x4 x5 k1 k2 n) k1 k2
noncomputable def L96_0_0 (α : Type) (x3 : Int) (x4 : Rows) (x5 : Int) (k1 : Int → Option α) (k2 : Int → Bool → Option α) (x6 : Int) : Option α := R96_0_0 α x3 x4 x5 k1 k2 fuel x6
abbrev TL96_0_0 : Type 1 := (α : Type) → Int → Rows → Int → (Int → Option α) → (Int → Bool → Option α) → Int → Option α
def F96_0_0 (v : TL96_0_0) (α : Type) (K : Exit → St → Option α) : Int → Rows → Int → Int → Option α := fun x3 x4 x5 x6 => v α x3 x4 x5 (fun (y1 : Int) => u96_0_1 (K .ret) y1) (fun (y1 : Int) (y2 : Bool) => u96_0_2 (K (.exit 0)) x3 x4 x5 y1 y2) x6
theorem r96_0_0g (vf125_0 : Tf125_0)  (α : Type) (K : Exit → St → Option α) (Kn : St → Option α) (x3 : Int) (x4 : Rows) (x5 x6 : Int) : u96_0_0 (fun σ => runM Try.prog (E96_0g vf125_0) sh96 (c96_0_7g ) (thenK (fun σ => tidyK td96_7 σ Kn) K) σ) x3 x4 x5 x6 = S96_0_0g vf125_0 α x3 x4 x5 x6 (fun x6 => u96_0_0 Kn x3 x4 x5 x6) (fun (y1 : Int) => u96_0_1 (K .ret) y1) (fun (y1 : Int) (y2 : Bool) => u96_0_2 (K (.exit 0)) x3 x4 x5 y1 y2) := by kernel_rfl
theorem r96_0_0 (α : Type) (K : Exit → St → Option α) (Kn : St → Option α) (x3 : Int) (x4 : Rows) (x5 x6 : Int) : u96_0_0 (fun σ => runM Try.prog E96_0 sh96 c96_0_7 (thenK (fun σ => tidyK td96_7 σ Kn) K) σ) x3 x4 x5 x6 = S96_0_0 α x3 x4 x5 x6 (fun x6 => u96_0_0 Kn x3 x4 x5 x6) (fun (y1 : Int) => u96_0_1 (K .ret) y1) (fun (y1 : Int) (y2 : Bool) => u96_0_2 (K (.exit 0)) x3 x4 x5 y1 y2) := r96_0_0g f125_0 α K Kn x3 x4 x5 x6
theorem t96_0_0 (α : Type) (K : Exit → St → Option α) : ∀ (n : Nat) (x3 : Int) (x4 : Rows) (x5 x6 : Int), R96_0_0 α x3 x4 x5 (fun (y1 : Int) => u96_0_1 (K .ret) y1) (fun (y1 : Int) (y2 : Bool) => u96_0_2 (K (.exit 0)) x3 x4 x5 y1 y2) n x6 = u96_0_0 (loopT (runM Try.prog E96_0 sh96 c96_0_7) td96_7 K n) x3 x4 x5 x6 := by
 intro n
 induction n with
 | zero => intros; rfl
 | succ n ih => intro x3 x4 x5 x6; exact (congrArg (fun kn => S96_0_0 α x3 x4 x5 x6 kn (fun (y1 : Int) => u96_0_1 (K .ret) y1) (fun (y1 : Int) (y2 : Bool) => u96_0_2 (K (.exit 0)) x3 x4 x5 y1 y2)) (funext fun x6 => ih x3 x4 x5 x6)).trans (r96_0_0 α K (loopT (runM Try.prog E96_0 sh96 c96_0_7) td96_7 K n) x3 x4 x5 x6).symm
theorem m96_0_0 : ∀ (α : Type) (K : Exit → St → Option α), F96_0_0 L96_0_0 α K = p96_0_0.unc fun σ => loopT (runM Try.prog E96_0 sh96 c96_0_7) td96_7 K fuel σ := fun α K => funext fun x3 => funext fun x4 => funext fun x5 => funext fun x6 => t96_0_0 α K fuel x3 x4 x5 x6
abbrev Tf96_0 : Type 1 := (α : Type) → Int → Rows → (Int → Option α) → Option α
def f96_0g (vL96_0_0 : TL96_0_0) (α : Type) (x1 : Int) (x2 : Rows) (k1 : Int → Option α) : Option α :=
 vL96_0_0 α x1 x2 ((List.length x2 : Nat) : Int)
 (fun x11 => k1 x11)
 (fun x12 x13 => k1 0) 0
noncomputable def f96_0 (α : Type) (x1 : Int) (x2 : Rows) (k1 : Int → Option α) : Option α := f96_0g L96_0_0 α x1 x2 k1
def pa96_0 : PT (List DV) := pA [pV false [(dI .i64)], pV false [dL]]
def Fn96_0 (v : Tf96_0) (α : Type) (k : List RV → Option α) : Int → Rows → Option α := fun x1 x2 => v α x1 x2 (fun (y1 : Int) => ur96_0_0 k y1)
noncomputable def cm96_0g (vL96_0_0 : TL96_0_0) : MCode := (.seq (.region r96_2 [] (tO [0, 1])) (.seq (.seq (.region r96_5 [] (tO [0, 8, 9, 10])) (.block 0 (.loop td96_7 [⟨p96_0_0, F96_0_0 vL96_0_0⟩] c96_0_7))) (.seq (.region r96_25 [] (tO [4])) .ret)))
noncomputable def cm96_0 : MCode := cm96_0g L96_0_0
theorem gm96_0 : cm96_0.Good Try.prog E96_0 sh96 := ⟨trivial, ⟨⟨trivial, ⟨g96_0_7, m96_0_0, trivial⟩⟩, ⟨trivial, trivial⟩⟩⟩
theorem fm96_0g (vf125_0 : Tf125_0) (vL96_0_0 : TL96_0_0) (α : Type) (k : List RV → Option α) : Fn96_0 (f96_0g vL96_0_0) α k = pa96_0.unc fun ds => fnM Try.prog (E96_0g vf125_0) sh96 (cm96_0g vL96_0_0) rs96 k ds := by kernel_rfl
theorem fm96_0 : ∀ (α : Type) (k : List RV → Option α), Fn96_0 f96_0 α k = pa96_0.unc fun ds => fnM Try.prog E96_0 sh96 cm96_0 rs96 k ds := fm96_0g f125_0 L96_0_0
theorem is96 : FnIs Try.prog 96 nt96 tr96 tl96 cm96_0.erase rs96 := ⟨Try.f96, Try.func96, rfl, by kernel_rfl, by kernel_rfl, by kernel_rfl⟩
theorem io96_0 : InstOk Try.prog 96 nt96 ⟨pa96_0, Fn96_0 f96_0⟩ := inst_ok eo96_0 followsTry is96 ⟨⟨sh96, cm96_0, by kernel_rfl, gm96_0, fm96_0⟩⟩
abbrev nt28 : Nat := 22
def sh28 : List (Nat × List Sh) := [(5, [.str]), (7, [.int .i64]), (9, [.int .i64, .int .i64]), (15, [.int .i64, .int .i64]), (17, [.int .i64, .int .i64]), (19, [.int .i64, .int .i64])]
def r28_2 : List AOper := [oO 1 (.box (.tmp 0)), oO 2 (.mv (kI 0))]
def r28_5 : List AOper := [oO 4 (.faddr 0 (.tmp 1)), oO 5 (.load false 1 (.tmp 4)), oO 6 (.faddr 1 (.tmp 1)), oO 7 (.load false 1 (.tmp 6)), oO 8 (.faddr 2 (.tmp 1)), oO 9 (.load true 2 (.tmp 8)), oO 10 (.call 83 [(.tmp 5), (.tmp 7), (.tmp 9)]), oM 3 10]
def r28_7 : List AOper := [oM 11 3, oO 12 (.bin .neq 28 (.tmp 11) (kI 0))]
def r28_10 : List AOper := [oM 13 3, oM 2 13]
def r28_12 : List AOper := [oO 14 (.faddr 4 (.tmp 1)), oO 15 (.load true 2 (.tmp 14)), oO 16 (.faddr 6 (.tmp 1)), oO 17 (.load true 2 (.tmp 16)), oO 18 (.faddr 8 (.tmp 1)), oO 19 (.load true 2 (.tmp 18)), oO 20 (.bslice 2 3 [(.v (.int .i64 0)), (.v (.int .i64 0))] [(0, (.tmp 15)), (1, (.tmp 17)), (2, (.tmp 19))]), oO 21 (.call 96 [(kI 1048576), (.tmp 20)]), oM 2 21]
def tr28 : List (Nat × Tidy) := [tT 0 [1], tT 1 [1, 3], tT 2 [1, 3, 12], tT 3 [2], tT 4 [2]]
def tl28 : List (Nat × Tidy) := []
def rs28 : List AResV := [.tmp 2]
def pr28_0_0 : PT (List RV) := pRs [pR false [rD (dI .i64)]]
def ur28_0_0 {β : Type} (g : List RV → β) : Int → β := pr28_0_0.unc g
def E28_0g (vf83_0 : Tf83_0) (vf96_0 : Tf96_0) : EnvK := EnvK.of [⟨83, nt83, [⟨pa83_0, Fn83_0 vf83_0⟩]⟩, ⟨96, nt96, [⟨pa96_0, Fn96_0 vf96_0⟩]⟩] noSeq
noncomputable def E28_0 : EnvK := E28_0g f83_0 f96_0
theorem eo28_0 : E28_0.Ok Try.prog := EnvK.of_ok noSeq_ok ⟨⟨io83_0, trivial⟩, ⟨io96_0, trivial⟩, trivial⟩
abbrev Tf28_0 : Type 1 := (α : Type) → ByteArray → Int → Int → Int → Int → Int → Int → Int → Int → Int → (Int → Option α) → Option α
def f28_0g (vf83_0 : Tf83_0) (vf96_0 : Tf96_0) (α : Type) (x1 : ByteArray) (x2 x3 x4 x5 x6 x7 x8 x9 x10 : Int) (k1 : Int → Option α) : Option α :=
 vf83_0 α x1 x2 x3 x4
 (fun x11 => cK (x11 != 0)
 (k1 x11)
 (vf96_0 α 1048576 [[DC.v (.int .i64 x5), DC.v (.int .i64 x6)], [DC.v (.int .i64 x7), DC.v (.int .i64 x8)], [DC.v (.int .i64 x9), DC.v (.int .i64 x10)]]
 (fun x12 => k1 x12)))
noncomputable def f28_0 (α : Type) (x1 : ByteArray) (x2 x3 x4 x5 x6 x7 x8 x9 x10 : Int) (k1 : Int → Option α) : Option α := f28_0g f83_0 f96_0 α x1 x2 x3 x4 x5 x6 x7 x8 x9 x10 k1
def pa28_0 : PT (List DV) := pA [pV true [dS, (dI .i64), (dI .i64), (dI .i64), (dI .i64), (dI .i64), (dI .i64), (dI .i64), (dI .i64), (dI .i64)]]
def Fn28_0 (v : Tf28_0) (α : Type) (k : List RV → Option α) : ByteArray → Int → Int → Int → Int → Int → Int → Int → Int → Int → Option α := fun x1 x2 x3 x4 x5 x6 x7 x8 x9 x10 => v α x1 x2 x3 x4 x5 x6 x7 x8 x9 x10 (fun (y1 : Int) => ur28_0_0 k y1)
noncomputable def cm28_0g  : MCode := (.seq (.region r28_2 [] (tO [1])) (.seq (.seq (.region r28_5 [] (tO [1, 3])) (.seq (.region r28_7 [] (tO [1, 3, 12])) (.cond (.tmp 12) (.seq (.region r28_10 [] (tO [2])) .ret) .skip))) (.seq (.region r28_12 [] (tO [2])) .ret)))
noncomputable def cm28_0 : MCode := cm28_0g 
theorem gm28_0 : cm28_0.Good Try.prog E28_0 sh28 := ⟨trivial, ⟨⟨trivial, ⟨trivial, ⟨⟨trivial, trivial⟩, trivial⟩⟩⟩, ⟨trivial, trivial⟩⟩⟩
theorem fm28_0g (vf83_0 : Tf83_0) (vf96_0 : Tf96_0)  (α : Type) (k : List RV → Option α) : Fn28_0 (f28_0g vf83_0 vf96_0) α k = pa28_0.unc fun ds => fnM Try.prog (E28_0g vf83_0 vf96_0) sh28 (cm28_0g ) rs28 k ds := by kernel_rfl
theorem fm28_0 : ∀ (α : Type) (k : List RV → Option α), Fn28_0 f28_0 α k = pa28_0.unc fun ds => fnM Try.prog E28_0 sh28 cm28_0 rs28 k ds := fm28_0g f83_0 f96_0
theorem is28 : FnIs Try.prog 28 nt28 tr28 tl28 cm28_0.erase rs28 := ⟨Try.f28, Try.func28, rfl, by kernel_rfl, by kernel_rfl, by kernel_rfl⟩
theorem io28_0 : InstOk Try.prog 28 nt28 ⟨pa28_0, Fn28_0 f28_0⟩ := inst_ok eo28_0 followsTry is28 ⟨⟨sh28, cm28_0, by kernel_rfl, gm28_0, fm28_0⟩⟩
abbrev nt48 : Nat := 39
def sh48 : List (Nat × List Sh) := [(9, [.str, .int .i64, .int .i64, .int .i64, .int .i64, .int .i64, .int .i64, .int .i64, .int .i64, .int .i64]), (19, [.int .i64]), (22, [.int .i64]), (27, [.int .i64]), (30, [.int .i64]), (33, [.bool]), (38, [.int .i64, .int .i64])]
def r48_2 : List AOper := [oO 1 (.box (.tmp 0)), oO 2 (.alloc [(cI 0), (cI 0)]), oO 3 (.mv (kI 0))]
def r48_5 : List AOper := [oO 9 (.load true 10 (.tmp 1)), oO 10 (.call 28 [(.tmp 9)]), oM 4 10]
def r48_7 : List AOper := [oM 11 4, oO 12 (.bin .neq 28 (.tmp 11) (kI 0))]
def r48_10 : List AOper := [oO 13 (.build [(cI 0), (cI 0)] []), oM 14 4, oD (.store 2 (.tmp 2) (.tmp 13)), oM 3 14]
def r48_12 : List AOper := [oO 15 (.build [(cI 0), (cI 0)] [(0, 1, (kI 0)), (1, 1, (kI 1024))]), oO 5 (.alloc [(cI 0), (cI 0)]), oD (.store 2 (.tmp 5) (.tmp 15))]
def r48_14 : List AOper := [oO 6 (.alloc [(.d (.v (.bool false)))]), oD (.store 1 (.tmp 6) (.const (.bool false)))]
def td48_17 : Option Tidy := (tO [1, 2, 3, 5, 6])
def r48_19 : List AOper := [oM 7 16]
def r48_20 : List AOper := [oO 8 (.alloc [(cI 0), (cI 0)]), oD (.store 2 (.tmp 8) (.tmp 17))]
def r48_24 : List AOper := [oO 18 (.faddr 0 (.tmp 8)), oO 19 (.load false 1 (.tmp 18)), oO 20 (.faddr 4 (.tmp 1)), oO 21 (.faddr 1 (.tmp 20)), oO 22 (.load false 1 (.tmp 21)), oO 23 (.bin .geq 3 (.tmp 19) (.tmp 22))]
def r48_26 : List AOper := [oM 24 7, oO 25 (.faddr 0 (.tmp 5)), oD (.store 1 (.tmp 25) (.tmp 24))]
def r48_28 : List AOper := [oO 26 (.faddr 1 (.tmp 8)), oO 27 (.load false 1 (.tmp 26)), oO 28 (.faddr 4 (.tmp 1)), oO 29 (.faddr 0 (.tmp 28)), oO 30 (.load false 1 (.tmp 29)), oO 31 (.bin .leq 3 (.tmp 27) (.tmp 30)), oM 32 31, oG 33 (.load false 1 (.tmp 6)) 32 true, oG 34 (.pure (oB (.unOp .not 4 (.tmp 33)) 4)) 32 true, oO 35 (.pick (.tmp 32) (.tmp 34) (.const (.bool false)))]
def r48_30 : List AOper := [oM 36 7, oO 37 (.faddr 1 (.tmp 5)), oD (.store 1 (.tmp 37) (.tmp 36)), oD (.store 1 (.tmp 6) (.const (.bool true)))]
def r48_32 : List AOper := [oO 38 (.load true 2 (.tmp 5)), oD (.store 2 (.tmp 2) (.tmp 38)), oO 3 (.mv (kI 0))]
def tr48 : List (Nat × Tidy) := [tT 0 [1, 2, 3], tT 1 [1, 2, 3, 4], tT 2 [1, 2, 3, 4, 12], tT 3 [2, 3], tT 4 [1, 2, 3, 5], tT 5 [1, 2, 3, 5, 6], tT 6 [1, 2, 3, 5, 6, 7, 17], tT 7 [1, 2, 3, 5, 6, 7, 8], tT 8 [1, 2, 3, 5, 6, 7, 8, 23], tT 9 [1, 2, 3, 5, 6, 7, 8], tT 10 [1, 2, 3, 5, 6, 7, 35], tT 11 [1, 2, 3, 5, 6], tT 12 [2, 3]]
def tl48 : List (Nat × Tidy) := [tT 8 [1, 2, 3, 5, 6]]
def rs48 : List AResV := [.cell 2 true 2, .tmp 3]
def p48_0_0 : PT St := pS [sl 1 (aV false [(cPtr 1 0)]), sl 2 (aV false [(cPtr 2 0)]), sl 3 (aV false [(cD (dI .i64))]), sl 5 (aV false [(cPtr 5 0)]), sl 6 (aV false [(cPtr 6 0)])] [eBox 1 [(cD dS), (cD (dI .i64)), (cD (dI .i64)), (cD (dI .i64)), (cD (dI .i64)), (cD (dI .i64)), (cD (dI .i64)), (cD (dI .i64)), (cD (dI .i64)), (cD (dI .i64))], eBox 2 [(cD (dI .i64)), (cD (dI .i64))], eBox 5 [(cD (dI .i64)), (cD (dI .i64))], eBox 6 [(cD dB)]]
def u48_0_0 {β : Type} (g : St → β) : Int → ByteArray → Int → Int → Int → Int → Int → Int → Int → Int → Int → Int → Int → Int → Int → Bool → β := p48_0_0.unc g
def pr48_0_0 : PT (List RV) := pRs [pR true [rD (dI .i64), rD (dI .i64)], pR false [rD (dI .i64)]]
def ur48_0_0 {β : Type} (g : List RV → β) : Int → Int → Int → β := pr48_0_0.unc g
def E48_0g (vf28_0 : Tf28_0) (vq102 : Tq102) : EnvK := EnvK.of [⟨28, nt28, [⟨pa28_0, Fn28_0 vf28_0⟩]⟩] (seqE [⟨102, pq102, vq102⟩])
noncomputable def E48_0 : EnvK := E48_0g f28_0 q102
theorem eo48_0 : E48_0.Ok Try.prog := EnvK.of_ok (seqE_ok (l := [⟨102, pq102, q102⟩]) ⟨sqok102, trivial⟩) ⟨⟨io28_0, trivial⟩, trivial⟩
noncomputable def ca48_0_17 : MCode := (.seq (.region r48_19 [] (tO [1, 2, 3, 5, 6, 7, 17])) (.region r48_20 [] (tO [1, 2, 3, 5, 6, 7, 8])))
theorem ga48_0_17 : ca48_0_17.Good Try.prog E48_0 sh48 := ⟨trivial, trivial⟩
noncomputable def c48_0_17g  : MCode := (.block 1 (.seq (.seq (.region r48_24 [] (tO [1, 2, 3, 5, 6, 7, 8, 23])) (.cond (.tmp 23) (.region r48_26 [] (tO [1, 2, 3, 5, 6, 7, 8])) .skip)) (.seq (.region r48_28 [] (tO [1, 2, 3, 5, 6, 7, 35])) (.cond (.tmp 35) (.region r48_30 [] (tO [1, 2, 3, 5, 6])) .skip))))
noncomputable def c48_0_17 : MCode := c48_0_17g 
theorem g48_0_17 : c48_0_17.Good Try.prog E48_0 sh48 := ⟨⟨trivial, ⟨trivial, trivial⟩⟩, ⟨trivial, ⟨trivial, trivial⟩⟩⟩
--CODE 17 0
def S48_0_0g  (α : Type) (x17 x18 : Int) (y28 : Int × Int × Int) (x25 x26 : Int) (x27 : Bool) (kn : Int → Int → Bool → Option α) (k1 : Int → Int → Bool → Option α) : Option α :=
 cK (decide (x18 ≤ y28.2.1))
 (cK (decide (y28.2.2 ≤ x17))
 (cK (!x27)
 (kn y28.1 y28.1 true)
 (kn y28.1 x26 x27))
 (kn y28.1 x26 x27))
 (cK (decide (y28.2.2 ≤ x17))
 (cK (!x27)
 (kn x25 y28.1 true)
 (kn x25 x26 x27))
 (kn x25 x26 x27))
noncomputable def S48_0_0 (α : Type) (x17 x18 : Int) (y28 : Int × Int × Int) (x25 x26 : Int) (x27 : Bool) (kn : Int → Int → Bool → Option α) (k1 : Int → Int → Bool → Option α) : Option α := S48_0_0g  α x17 x18 y28 x25 x26 x27 kn k1
noncomputable def V48_0_0 (α : Type) (x17 x18 : Int) (k1 : Int → Int → Bool → Option α) : List (Int × Int × Int) → Int → Int → Bool → Option α
 | [], x25, x26, x27 => k1 x25 x26 x27
 | y28 :: ys, x25, x26, x27 => S48_0_0 α x17 x18 y28 x25 x26 x27 (V48_0_0 α x17 x18 k1 ys) k1
abbrev TV48_0_0 : Type 1 := (α : Type) → Int → Int → (Int → Int → Bool → Option α) → List (Int × Int × Int) → Int → Int → Bool → Option α
def F48_0_0 (v : TV48_0_0) (α : Type) (K : Exit → St → Option α) (ys : List (Int × Int × Int)) : Int → ByteArray → Int → Int → Int → Int → Int → Int → Int → Int → Int → Int → Int → Int → Int → Bool → Option α := fun x12 x13 x14 x15 x16 x17 x18 x19 x20 x21 x22 x23 x24 x25 x26 x27 => v α x17 x18 (fun (y1 : Int) (y2 : Int) (y3 : Bool) => u48_0_0 (K .normal) x12 x13 x14 x15 x16 x17 x18 x19 x20 x21 x22 x23 x24 y1 y2 y3) ys x25 x26 x27
theorem r48_0_0g (vf28_0 : Tf28_0) (vq102 : Tq102)  (α : Type) (K : Exit → St → Option α) (Kn : St → Option α) (y28 : Int × Int × Int) (x12 : Int) (x13 : ByteArray) (x14 x15 x16 x17 x18 x19 x20 x21 x22 x23 x24 x25 x26 : Int) (x27 : Bool) : u48_0_0 (fun σ => roundT (runM Try.prog (E48_0g vf28_0 vq102) sh48 ca48_0_17) (runM Try.prog (E48_0g vf28_0 vq102) sh48 c48_0_17) [16, 17] td48_17 Kn K (xIP.ex y28) σ) x12 x13 x14 x15 x16 x17 x18 x19 x20 x21 x22 x23 x24 x25 x26 x27 = S48_0_0g  α x17 x18 y28 x25 x26 x27 (fun x25 x26 x27 => u48_0_0 Kn x12 x13 x14 x15 x16 x17 x18 x19 x20 x21 x22 x23 x24 x25 x26 x27) (fun (y1 : Int) (y2 : Int) (y3 : Bool) => u48_0_0 (K .normal) x12 x13 x14 x15 x16 x17 x18 x19 x20 x21 x22 x23 x24 y1 y2 y3) := by kernel_rfl
theorem r48_0_0 (α : Type) (K : Exit → St → Option α) (Kn : St → Option α) (y28 : Int × Int × Int) (x12 : Int) (x13 : ByteArray) (x14 x15 x16 x17 x18 x19 x20 x21 x22 x23 x24 x25 x26 : Int) (x27 : Bool) : u48_0_0 (fun σ => roundT (runM Try.prog E48_0 sh48 ca48_0_17) (runM Try.prog E48_0 sh48 c48_0_17) [16, 17] td48_17 Kn K (xIP.ex y28) σ) x12 x13 x14 x15 x16 x17 x18 x19 x20 x21 x22 x23 x24 x25 x26 x27 = S48_0_0 α x17 x18 y28 x25 x26 x27 (fun x25 x26 x27 => u48_0_0 Kn x12 x13 x14 x15 x16 x17 x18 x19 x20 x21 x22 x23 x24 x25 x26 x27) (fun (y1 : Int) (y2 : Int) (y3 : Bool) => u48_0_0 (K .normal) x12 x13 x14 x15 x16 x17 x18 x19 x20 x21 x22 x23 x24 y1 y2 y3) := r48_0_0g f28_0 q102 α K Kn y28 x12 x13 x14 x15 x16 x17 x18 x19 x20 x21 x22 x23 x24 x25 x26 x27
theorem t48_0_0 (α : Type) (K : Exit → St → Option α) : ∀ (ys : List (Int × Int × Int)) (x12 : Int) (x13 : ByteArray) (x14 x15 x16 x17 x18 x19 x20 x21 x22 x23 x24 x25 x26 : Int) (x27 : Bool), V48_0_0 α x17 x18 (fun (y1 : Int) (y2 : Int) (y3 : Bool) => u48_0_0 (K .normal) x12 x13 x14 x15 x16 x17 x18 x19 x20 x21 x22 x23 x24 y1 y2 y3) ys x25 x26 x27 = u48_0_0 (roundsK (runM Try.prog E48_0 sh48 ca48_0_17) (runM Try.prog E48_0 sh48 c48_0_17) [16, 17] td48_17 K (ys.map xIP.ex)) x12 x13 x14 x15 x16 x17 x18 x19 x20 x21 x22 x23 x24 x25 x26 x27 := by
 intro ys
 induction ys with
 | nil => intros; rfl
 | cons y28 ys ih => intro x12 x13 x14 x15 x16 x17 x18 x19 x20 x21 x22 x23 x24 x25 x26 x27; exact (congrArg (fun kn => S48_0_0 α x17 x18 y28 x25 x26 x27 kn (fun (y1 : Int) (y2 : Int) (y3 : Bool) => u48_0_0 (K .normal) x12 x13 x14 x15 x16 x17 x18 x19 x20 x21 x22 x23 x24 y1 y2 y3)) (funext fun x25 => funext fun x26 => funext fun x27 => ih x12 x13 x14 x15 x16 x17 x18 x19 x20 x21 x22 x23 x24 x25 x26 x27)).trans (r48_0_0 α K (roundsK (runM Try.prog E48_0 sh48 ca48_0_17) (runM Try.prog E48_0 sh48 c48_0_17) [16, 17] td48_17 K (ys.map xIP.ex)) y28 x12 x13 x14 x15 x16 x17 x18 x19 x20 x21 x22 x23 x24 x25 x26 x27).symm
theorem m48_0_0 : ∀ (α : Type) (K : Exit → St → Option α) (ys : List (Int × Int × Int)), F48_0_0 V48_0_0 α K ys = p48_0_0.unc fun σ => roundsK (runM Try.prog E48_0 sh48 ca48_0_17) (runM Try.prog E48_0 sh48 c48_0_17) [16, 17] td48_17 K (ys.map xIP.ex) σ := fun α K ys => funext fun x12 => funext fun x13 => funext fun x14 => funext fun x15 => funext fun x16 => funext fun x17 => funext fun x18 => funext fun x19 => funext fun x20 => funext fun x21 => funext fun x22 => funext fun x23 => funext fun x24 => funext fun x25 => funext fun x26 => funext fun x27 => t48_0_0 α K ys x12 x13 x14 x15 x16 x17 x18 x19 x20 x21 x22 x23 x24 x25 x26 x27
abbrev Tf48_0 : Type 1 := (α : Type) → ByteArray → Int → Int → Int → Int → Int → Int → Int → Int → Int → (Int → Int → Int → Option α) → Option α
def f48_0g (vV48_0_0 : TV48_0_0) (vf28_0 : Tf28_0) (vq102 : Tq102) (α : Type) (x1 : ByteArray) (x2 x3 x4 x5 x6 x7 x8 x9 x10 : Int) (k1 : Int → Int → Int → Option α) : Option α :=
 vf28_0 α x1 x2 x3 x4 x5 x6 x7 x8 x9 x10
 (fun x11 => cK (x11 != 0)
 (k1 0 0 x11)
 (qK vq102 xIP fun y32 => vV48_0_0 α x5 x6
 (fun x29 x30 x31 => k1 x29 x30 0) y32 0 1024 false))
noncomputable def f48_0 (α : Type) (x1 : ByteArray) (x2 x3 x4 x5 x6 x7 x8 x9 x10 : Int) (k1 : Int → Int → Int → Option α) : Option α := f48_0g V48_0_0 f28_0 q102 α x1 x2 x3 x4 x5 x6 x7 x8 x9 x10 k1
def pa48_0 : PT (List DV) := pA [pV true [dS, (dI .i64), (dI .i64), (dI .i64), (dI .i64), (dI .i64), (dI .i64), (dI .i64), (dI .i64), (dI .i64)]]
def Fn48_0 (v : Tf48_0) (α : Type) (k : List RV → Option α) : ByteArray → Int → Int → Int → Int → Int → Int → Int → Int → Int → Option α := fun x1 x2 x3 x4 x5 x6 x7 x8 x9 x10 => v α x1 x2 x3 x4 x5 x6 x7 x8 x9 x10 (fun (y1 : Int) (y2 : Int) (y3 : Int) => ur48_0_0 k y1 y2 y3)
noncomputable def cm48_0g (vV48_0_0 : TV48_0_0) : MCode := (.seq (.region r48_2 [] (tO [1, 2, 3])) (.seq (.seq (.region r48_5 [] (tO [1, 2, 3, 4])) (.seq (.region r48_7 [] (tO [1, 2, 3, 4, 12])) (.cond (.tmp 12) (.seq (.region r48_10 [] (tO [2, 3])) .ret) .skip))) (.seq (.region r48_12 [] (tO [1, 2, 3, 5])) (.seq (.region r48_14 [] (tO [1, 2, 3, 5, 6])) (.seq (.block 0 (.rangeF (.func 102) [16, 17] td48_17 [⟨xIP, p48_0_0, F48_0_0 vV48_0_0⟩] ca48_0_17 c48_0_17)) (.seq (.region r48_32 [] (tO [2, 3])) .ret))))))
noncomputable def cm48_0 : MCode := cm48_0g V48_0_0
theorem gm48_0 : cm48_0.Good Try.prog E48_0 sh48 := ⟨trivial, ⟨⟨trivial, ⟨trivial, ⟨⟨trivial, trivial⟩, trivial⟩⟩⟩, ⟨trivial, ⟨trivial, ⟨⟨⟨ga48_0_17, g48_0_17⟩, m48_0_0, trivial⟩, ⟨trivial, trivial⟩⟩⟩⟩⟩⟩
theorem fm48_0g (vf28_0 : Tf28_0) (vq102 : Tq102) (vV48_0_0 : TV48_0_0) (α : Type) (k : List RV → Option α) : Fn48_0 (f48_0g vV48_0_0 vf28_0 vq102) α k = pa48_0.unc fun ds => fnM Try.prog (E48_0g vf28_0 vq102) sh48 (cm48_0g vV48_0_0) rs48 k ds := by kernel_rfl
theorem fm48_0 : ∀ (α : Type) (k : List RV → Option α), Fn48_0 f48_0 α k = pa48_0.unc fun ds => fnM Try.prog E48_0 sh48 cm48_0 rs48 k ds := fm48_0g f28_0 q102 V48_0_0
theorem is48 : FnIs Try.prog 48 nt48 tr48 tl48 cm48_0.erase rs48 := ⟨Try.f48, Try.func48, rfl, by kernel_rfl, by kernel_rfl, by kernel_rfl⟩
theorem io48_0 : InstOk Try.prog 48 nt48 ⟨pa48_0, Fn48_0 f48_0⟩ := inst_ok eo48_0 followsTry is48 ⟨⟨sh48, cm48_0, by kernel_rfl, gm48_0, fm48_0⟩⟩
end Go.AM.K
