/- Printed by KGen. -/
import Derived.Test.YtnhkllkecbmchaaGreatDoorTM0
namespace Go.AM.K
open Go.Proofs
set_option maxRecDepth 100000
set_option linter.unusedVariables false
noncomputable section
abbrev nt245 : Nat := 24
def sh245 : SG := [(7, iT), (13, iT), (20, iT), (22, iT)]
def r245_2 : LA := [oO 2 (.box (.tmp 0)), mK 4 0]
def r245_6 : LA := [fA 6 0 2, lD 7 6, oM 8 1, oO 9 (.call 276 [(.tmp 7), (.tmp 8)]), oO 10 (.pure (oB (.unOp .not 4 (.tmp 9)) 4)), oM 11 10, oG 12 (.faddr 1 (.tmp 2)) 11 false, oG 13 (.load false 1 (.tmp 12)) 11 false, oG 14 (.mv (.tmp 1)) 11 false, oG 15 (.call 276 [(.tmp 13), (.tmp 14)]) 11 false, oG 16 (.pure (oB (.unOp .not 4 (.tmp 15)) 4)) 11 false, oO 17 (.pick (.tmp 11) (.const (.bool true)) (.tmp 16)), oM 5 17]
def r245_9 : LA := [mK 4 2]
def r245_11 : LA := [fA 19 0 2, lD 20 19, fA 21 1 2, lD 22 21, bT 23 .gtr 20 22, oM 18 23]
def r245_14 : LA := [mK 4 10]
def r245_16 : LA := [mK 4 0]
def tr245 : TG := [tT 0 [1, 2], tT 1 [2, 5], tT 2 [4], tT 3 [18], tT 4 [4], tT 5 [4]]
def tl245 : TG := []
def rs245 : List AResV := [.tmp 4]
def p245_0_0 : PT St := pS [sI 1, sP 2] [eBox 2 [xI, xI]]
def u245_0_0 {β : Type} (g : St -> β) : Int -> Int -> Int -> β := p245_0_0.unc g
def p245_0_1 : PT St := pS [sP 2, sl 5 (aV false [(cD dB)])] [eBox 2 [xI, xI]]
def u245_0_1 {β : Type} (g : St -> β) : Bool -> Int -> Int -> β := p245_0_1.unc g
def pr245_0_0 : PT (List RV) := pRs [wI]
def ur245_0_0 {β : Type} (g : List RV -> β) : Int -> β := pr245_0_0.unc g
def E245_0g (a : Tf276_0) : EnvK := EnvK.of [⟨276, nt276, [⟨pa276_0, Fn276_0 a⟩]⟩] noSeq
def E245_0 : EnvK := E245_0g f276_0
theorem eo245_0 : E245_0.Ok Pg := EnvK.of_ok noSeq_ok ⟨⟨io276_0, trivial⟩, trivial⟩
def c245_0_5g : MCode := (.region r245_6 [] (tO [2, 5]))
def c245_0_5 : MCode := c245_0_5g
theorem g245_0_5 : c245_0_5.Good Pg E245_0 sh245 := trivial
abbrev TJ245_0_0 : Type 1 := (α : Type) -> Int -> Int -> Int -> (Bool -> Op α) -> Op α
def J245_0_0g (a : Tf276_0) (α : Type) (b c d : Int) (k1 : Bool -> Op α) : Op α :=
 a α c b
 (fun e => cK (!e)
 (k1 true)
 (a α d b
 (fun g => k1 (!g))))
def J245_0_0 (α : Type) (a b c : Int) (k1 : Bool -> Op α) : Op α := J245_0_0g f276_0 α a b c k1
def F245_0_0 (v : TJ245_0_0) (α : Type) (K : KT α) : Int -> Int -> Int -> Op α := fun c a b => v α c a b (fun d => u245_0_1 (K .normal) d a b)
theorem m245_0_0g (a : Tf276_0) (α : Type) (K : KT α) : F245_0_0 (J245_0_0g a) α K = p245_0_0.unc fun σ => runM Pg (E245_0g a) sh245 (c245_0_5g ) K σ := by kernel_rfl
theorem m245_0_0 : ∀ (α : Type) (K : KT α), F245_0_0 J245_0_0 α K = p245_0_0.unc fun σ => runM Pg E245_0 sh245 c245_0_5 K σ := m245_0_0g f276_0
abbrev Tf245_0 : Type 1 := (α : Type) -> Int -> Int -> Int -> (Int -> Op α) -> Op α
def f245_0g (c : TJ245_0_0) (α : Type) (a b d : Int) (k1 : Int -> Op α) : Op α :=
 c α d a b
 (fun e => cK e
 (k1 2)
 (cK (decide (b < a))
 (k1 10)
 (k1 0)))
def f245_0 (α : Type) (a b c : Int) (k1 : Int -> Op α) : Op α := f245_0g J245_0_0 α a b c k1
def pa245_0 : PT (List DV) := pA [pV true [(dI .i64), (dI .i64)], vI]
def Fn245_0 (v : Tf245_0) (α : Type) (k : RT α) : Int -> Int -> Int -> Op α := fun a b c => v α a b c (fun d => ur245_0_0 k d)
def cm245_0g (a : TJ245_0_0) : MCode := (.seq (.region r245_2 [] (tO [1, 2])) (.seq (.block 0 (.seq (.mark [⟨p245_0_0, F245_0_0 a⟩] c245_0_5) (.cond (.tmp 5) (.seq (.region r245_9 [] (tO [4])) .ret) (.seq (.region r245_11 [] (tO [18])) (.cond (.tmp 18) (.seq (.region r245_14 [] (tO [4])) .ret) .skip))))) (.seq (.region r245_16 [] (tO [4])) .ret)))
def cm245_0 : MCode := cm245_0g J245_0_0
theorem gm245_0 : cm245_0.Good Pg E245_0 sh245 := ⟨trivial, ⟨⟨⟨g245_0_5, m245_0_0, trivial⟩, ⟨⟨trivial, trivial⟩, ⟨trivial, ⟨⟨trivial, trivial⟩, trivial⟩⟩⟩⟩, ⟨trivial, trivial⟩⟩⟩
theorem fm245_0g (b : Tf276_0) (a : TJ245_0_0) (α : Type) (k : RT α) : Fn245_0 (f245_0g a) α k = pa245_0.unc fun ds => fnM Pg (E245_0g b) sh245 (cm245_0g a) rs245 k ds := by kernel_rfl
theorem fm245_0 : ∀ (α : Type) (k : RT α), Fn245_0 f245_0 α k = pa245_0.unc fun ds => fnM Pg E245_0 sh245 cm245_0 rs245 k ds := fm245_0g f276_0 J245_0_0
theorem is245 : FnIs Pg 245 nt245 tr245 tl245 cm245_0.erase rs245 := ⟨Tryz.f245, Tryz.func245, rfl, by kernel_rfl, by kernel_rfl, by kernel_rfl⟩
theorem io245_0 : InstOk Pg 245 nt245 ⟨pa245_0, Fn245_0 f245_0⟩ := inst_ok eo245_0 followsTry is245 ⟨⟨sh245, cm245_0, by kernel_rfl, gm245_0, fm245_0⟩⟩
abbrev nt313 : Nat := 5
def sh313 : SG := []
def r313_2 : LA := [oO 2 (.mv (.const (.bool false)))]
def r313_4 : LA := [oM 3 0, oO 4 (.call 276 [(.tmp 3), (kI 1000)]), oM 2 4]
def tr313 : TG := [tT 0 [0], tT 1 [2]]
def tl313 : TG := []
def rs313 : List AResV := [.tmp 2]
def pr313_0_0 : PT (List RV) := pRs [pR false [rD dB]]
def ur313_0_0 {β : Type} (g : List RV -> β) : Bool -> β := pr313_0_0.unc g
def E313_0g (a : Tf276_0) : EnvK := EnvK.of [⟨276, nt276, [⟨pa276_0, Fn276_0 a⟩]⟩] noSeq
def E313_0 : EnvK := E313_0g f276_0
theorem eo313_0 : E313_0.Ok Pg := EnvK.of_ok noSeq_ok ⟨⟨io276_0, trivial⟩, trivial⟩
abbrev Tf313_0 : Type 1 := (α : Type) -> Int -> (Bool -> Op α) -> Op α
def f313_0g (a : Tf276_0) (α : Type) (b : Int) (k1 : Bool -> Op α) : Op α :=
 a α b 1000
 (fun c => k1 c)
def f313_0 (α : Type) (a : Int) (k1 : Bool -> Op α) : Op α := f313_0g f276_0 α a k1
def pa313_0 : PT (List DV) := pA [vI]
def Fn313_0 (v : Tf313_0) (α : Type) (k : RT α) : Int -> Op α := fun a => v α a (fun b => ur313_0_0 k b)
def cm313_0g : MCode := (.seq (.region r313_2 [] (tO [0])) (.seq (.region r313_4 [] (tO [2])) .ret))
def cm313_0 : MCode := cm313_0g
theorem gm313_0 : cm313_0.Good Pg E313_0 sh313 := ⟨trivial, ⟨trivial, trivial⟩⟩
theorem fm313_0g (a : Tf276_0) (α : Type) (k : RT α) : Fn313_0 (f313_0g a) α k = pa313_0.unc fun ds => fnM Pg (E313_0g a) sh313 (cm313_0g ) rs313 k ds := by kernel_rfl
theorem fm313_0 : ∀ (α : Type) (k : RT α), Fn313_0 f313_0 α k = pa313_0.unc fun ds => fnM Pg E313_0 sh313 cm313_0 rs313 k ds := fm313_0g f276_0
theorem is313 : FnIs Pg 313 nt313 tr313 tl313 cm313_0.erase rs313 := ⟨Tryz.f313, Tryz.func313, rfl, by kernel_rfl, by kernel_rfl, by kernel_rfl⟩
theorem io313_0 : InstOk Pg 313 nt313 ⟨pa313_0, Fn313_0 f313_0⟩ := inst_ok eo313_0 followsTry is313 ⟨⟨sh313, cm313_0, by kernel_rfl, gm313_0, fm313_0⟩⟩
abbrev nt272 : Nat := 12
def sh272 : SG := []
def r272_2 : LA := [oO 2 (.mv (.const (.bool false)))]
def r272_4 : LA := [oM 3 0, oO 4 (.call 221 [.tmp 3]), oM 5 0, oO 6 (.bin .eql 231 (.tmp 4) (.tmp 5)), oM 7 6, oG 8 (.mv (.tmp 0)) 7 true, oG 9 (.call 222 [(.tmp 8), (kI 0)]) 7 true, oG 10 (.pure (oB (.unOp .not 4 (.tmp 9)) 4)) 7 true, oO 11 (.pick (.tmp 7) (.tmp 10) (.const (.bool false))), oM 2 11]
def tr272 : TG := [tT 0 [0], tT 1 [2]]
def tl272 : TG := []
def rs272 : List AResV := [.tmp 2]
def pr272_0_0 : PT (List RV) := pRs [pR false [rD dB]]
def ur272_0_0 {β : Type} (g : List RV -> β) : Bool -> β := pr272_0_0.unc g
def E272_0g (a : Tf221_0) (b : Tf222_0) : EnvK := EnvK.of [⟨221, nt221, [⟨pa221_0, Fn221_0 a⟩]⟩, ⟨222, nt222, [⟨pa222_0, Fn222_0 b⟩]⟩] noSeq
def E272_0 : EnvK := E272_0g f221_0 f222_0
theorem eo272_0 : E272_0.Ok Pg := EnvK.of_ok noSeq_ok ⟨⟨io221_0, trivial⟩, ⟨io222_0, trivial⟩, trivial⟩
abbrev Tf272_0 : Type 1 := (α : Type) -> Nat -> (Bool -> Op α) -> Op α
def f272_0g (b : Tf221_0) (c : Tf222_0) (α : Type) (a : Nat) (k1 : Bool -> Op α) : Op α :=
 b α a
 (k1 false)
 (fun d => cK ((FloatKind.format .f64).order d a == some Ordering.eq)
 (c α a 0
 (fun e => k1 (!e)))
 (k1 false))
def f272_0 (α : Type) (a : Nat) (k1 : Bool -> Op α) : Op α := f272_0g f221_0 f222_0 α a k1
def pa272_0 : PT (List DV) := pA [pV false [(dF .f64)]]
def Fn272_0 (v : Tf272_0) (α : Type) (k : RT α) : Nat -> Op α := fun a => v α a (fun b => ur272_0_0 k b)
def cm272_0g : MCode := (.seq (.region r272_2 [] (tO [0])) (.seq (.region r272_4 [] (tO [2])) .ret))
def cm272_0 : MCode := cm272_0g
theorem gm272_0 : cm272_0.Good Pg E272_0 sh272 := ⟨trivial, ⟨trivial, trivial⟩⟩
theorem fm272_0g (a : Tf221_0) (b : Tf222_0) (α : Type) (k : RT α) : Fn272_0 (f272_0g a b) α k = pa272_0.unc fun ds => fnM Pg (E272_0g a b) sh272 (cm272_0g ) rs272 k ds := by kernel_rfl
theorem fm272_0 : ∀ (α : Type) (k : RT α), Fn272_0 f272_0 α k = pa272_0.unc fun ds => fnM Pg E272_0 sh272 cm272_0 rs272 k ds := fm272_0g f221_0 f222_0
theorem is272 : FnIs Pg 272 nt272 tr272 tl272 cm272_0.erase rs272 := ⟨Tryz.f272, Tryz.func272, rfl, by kernel_rfl, by kernel_rfl, by kernel_rfl⟩
theorem io272_0 : InstOk Pg 272 nt272 ⟨pa272_0, Fn272_0 f272_0⟩ := inst_ok eo272_0 followsTry is272 ⟨⟨sh272, cm272_0, by kernel_rfl, gm272_0, fm272_0⟩⟩
abbrev nt165 : Nat := 67
def sh165 : SG := [(12, [.sl]), (26, iT), (31, iT), (37, iT), (39, iT), (42, [.sl]), (47, [.flt .f32]), (48, [.flt .f32]), (60, [.sl]), (66, [.sl, .int .i64, .int .i64])]
def r165_2 : LA := [oO 1 (.box (.tmp 0)), oO 2 (.alloc [.nils, (cI 0), (cI 0)]), mK 3 0, mK 4 0]
def r165_5 : LA := [fA 11 0 1, lD 12 11, oO 13 (.len (.tmp 12)), oM 5 13]
def r165_8 : LA := [oM 15 5, bK 16 .rem 15 4, bK 17 .neq 16 0, oM 18 17, oG 19 (.mv (.tmp 5)) 18 false, oG 20 (.call 215 [(.tmp 19), (kI 4), (kI 64)]) 18 false, oG 21 (.pure (oB (.unOp .not 4 (.tmp 20)) 4)) 18 false, oO 22 (.pick (.tmp 18) (.const (.bool true)) (.tmp 21)), oM 14 22]
def r165_11 : LA := [oO 23 (.build [.nils, (cI 0), (cI 0)] []), sD 3 2 23, mK 3 0, mK 4 12]
def r165_13 : LA := [fA 25 1 1, lD 26 25, oO 27 (.call 215 [(.tmp 26), (kI 0), (kI 65535)]), oO 28 (.pure (oB (.unOp .not 4 (.tmp 27)) 4)), oM 29 28, oG 30 (.faddr 2 (.tmp 1)) 29 false, oG 31 (.load false 1 (.tmp 30)) 29 false, oG 32 (.call 215 [(.tmp 31), (kI 1), (kI 65536)]) 29 false, oG 33 (.pure (oB (.unOp .not 4 (.tmp 32)) 4)) 29 false, oO 34 (.pick (.tmp 29) (.const (.bool true)) (.tmp 33)), oM 24 34]
def r165_16 : LA := [oO 35 (.build [.nils, (cI 0), (cI 0)] []), sD 3 2 35, mK 3 0, mK 4 2]
def r165_18 : LA := [fA 36 1 1, lD 37 36, fA 38 2 1, lD 39 38, oO 40 (.build [.nils, (cI 0), (cI 0)] [(1, 1, (.tmp 37)), (2, 1, (.tmp 39))]), oO 6 (.alloc [.nils, (cI 0), (cI 0)]), sD 3 6 40]
def r165_21 : LA := [fA 41 0 1, lD 42 41, oO 43 (.len (.tmp 42)), mK 44 0]
def td165_23 : OT := (some ⟨[2, 6, 42, 43, 44], true, [⟨false, 42, 0, 20042, 1⟩, ⟨true, 1, 0, 30100, 1⟩, ⟨true, 2, 0, 30200, 1⟩, ⟨true, 6, 0, 30600, 1⟩], []⟩)
def r165_25 : LA := [bT 45 .lss 44 43]
def r165_31 : LA := [oM 46 44, oO 47 (.iaddr 1 none (.tmp 42) (.tmp 44)), lD 48 47, oM 7 46, oM 8 48]
def r165_33 : LA := [oM 50 8, oO 51 (.call 239 [(.tmp 50), (kI 0), (kI 65535)]), oM 49 51, oO 52 (.extract 0 (.tmp 49)), oO 53 (.extract 1 (.tmp 49)), oM 9 52, oM 10 53]
def r165_36 : LA := [oM 54 10, oO 55 (.bin .neq 28 (.tmp 54) (kI 0))]
def r165_39 : LA := [oO 56 (.build [.nils, (cI 0), (cI 0)] []), oM 57 7, oM 58 10, sD 3 2 56, oM 3 57, oM 4 58]
def r165_40 : LA := [fA 59 0 6, lD 60 59, oM 61 9, oO 62 (.bslice 1 1 [(.v (.int .i64 0))] [(0, (.tmp 61))]), oO 63 (.append 1 8 (.tmp 60) (.tmp 62)), fA 64 0 6, sD 1 64 63]
def r165_41 : LA := [bK 65 .add 44 1, oM 44 65]
def r165_43 : LA := [lA 66 3 6, sD 3 2 66, mK 3 0, mK 4 0]
def tr165 : TG := [(0, ⟨[1, 2], true, [⟨true, 2, 0, 30200, 1⟩], []⟩), (1, ⟨[1, 2, 5], true, [⟨true, 2, 0, 30200, 1⟩], []⟩), (2, ⟨[1, 2, 14], true, [⟨true, 2, 0, 30200, 1⟩], []⟩), (3, ⟨[2, 3, 4], true, [⟨true, 2, 0, 30200, 1⟩], []⟩), (4, ⟨[1, 2, 24], true, [⟨true, 2, 0, 30200, 1⟩], []⟩), (5, ⟨[2, 3, 4], true, [⟨true, 2, 0, 30200, 1⟩], []⟩), (6, ⟨[1, 2, 6], true, [⟨true, 2, 0, 30200, 1⟩], []⟩), (7, ⟨[2, 6, 42, 43, 44], true, [⟨true, 2, 0, 30200, 1⟩], []⟩), (8, ⟨[2, 6, 42, 43, 44, 45], true, [⟨true, 2, 0, 30200, 1⟩], []⟩), (9, ⟨[2, 6, 7, 8, 42, 43, 44], true, [⟨true, 2, 0, 30200, 1⟩], []⟩), (10, ⟨[2, 6, 7, 9, 10, 42, 43, 44], true, [⟨true, 2, 0, 30200, 1⟩], []⟩), (11, ⟨[2, 6, 7, 9, 10, 42, 43, 44, 55], true, [⟨true, 2, 0, 30200, 1⟩], []⟩), (12, ⟨[2, 3, 4], true, [⟨true, 2, 0, 30200, 1⟩], []⟩), (13, ⟨[2, 6, 42, 43, 44], true, [⟨true, 2, 0, 30200, 1⟩], []⟩), (14, ⟨[2, 6, 42, 43, 44], true, [⟨true, 2, 0, 30200, 1⟩], []⟩), (15, ⟨[2, 3, 4], true, [⟨true, 2, 0, 30200, 1⟩], []⟩)]
def tl165 : TG := [(8, ⟨[2, 6, 42, 43, 44], true, [⟨false, 42, 0, 20042, 1⟩, ⟨true, 1, 0, 30100, 1⟩, ⟨true, 2, 0, 30200, 1⟩, ⟨true, 6, 0, 30600, 1⟩], []⟩)]
def rs165 : List AResV := [.cell 2 true 3, .tmp 3, .tmp 4]
def p165_0_0 : PT St := pS [sP 1, sP 2, sI 5] [eBox 1 [(cD dL), xI, xI], eBox 2 [(cRef 30200), xI, xI], eOwn 30200 1]
def u165_0_0 {β : Type} (g : St -> β) : Int -> Rows -> Int -> Int -> Int -> Int -> Rows -> β := p165_0_0.unc g
def p165_0_1 : PT St := pS [sP 1, sP 2, sl 14 (aV false [(cD dB)])] [eBox 1 [(cD dL), xI, xI], eBox 2 [(cRef 30200), xI, xI], eOwn 30200 1]
def u165_0_1 {β : Type} (g : St -> β) : Bool -> Rows -> Int -> Int -> Int -> Int -> Rows -> β := p165_0_1.unc g
def p165_0_2 : PT St := pS [sP 2, sP 6, sl 42 (aV false [(cD dL)]), sI 43, sI 44] [eBox 2 [(cRef 30200), xI, xI], eOwn 30200 1, eBox 6 [(cRef 30600), xI, xI], eOwn 30600 1]
def u165_0_2 {β : Type} (g : St -> β) : Rows -> Int -> Int -> Int -> Int -> Rows -> Int -> Int -> Rows -> β := p165_0_2.unc g
def p165_0_3 : PT St := pS [sP 2, sI 3, sI 4] [eBox 2 [(cRef 30200), xI, xI], eOwn 30200 1]
def u165_0_3 {β : Type} (g : St -> β) : Int -> Int -> Int -> Int -> Rows -> β := p165_0_3.unc g
def p165_0_4 : PT St := pS [sP 2, sP 6, sl 42 (aV false [(cD dL)]), sI 43, sI 44, sl 45 (aV false [(cD dB)])] [eBox 2 [(cRef 30200), xI, xI], eOwn 30200 1, eBox 6 [(cRef 30600), xI, xI], eOwn 30600 1]
def u165_0_4 {β : Type} (g : St -> β) : Rows -> Int -> Int -> Bool -> Int -> Int -> Rows -> Int -> Int -> Rows -> β := p165_0_4.unc g
def pr165_0_0 : PT (List RV) := pRs [pR true [rO 1, rD (dI .i64), rD (dI .i64)], wI, wI]
def ur165_0_0 {β : Type} (g : List RV -> β) : Rows -> I4 β := pr165_0_0.unc g
def E165_0g (a : Tf215_0) (b : Tf239_0) : EnvK := EnvK.of [⟨215, nt215, [⟨pa215_0, Fn215_0 a⟩]⟩, ⟨239, nt239, [⟨pa239_0, Fn239_0 b⟩]⟩] noSeq
def E165_0 : EnvK := E165_0g f215_0 f239_0
theorem eo165_0 : E165_0.Ok Pg := EnvK.of_ok noSeq_ok ⟨⟨io215_0, trivial⟩, ⟨io239_0, trivial⟩, trivial⟩
def c165_0_23g : MCode := (.seq (.region r165_25 [] (some ⟨[2, 6, 42, 43, 44, 45], true, [⟨true, 2, 0, 30200, 1⟩], []⟩)) (.seq (.cond (.tmp 45) .skip (.exit 1)) (.seq (.block 2 (.seq (.region r165_31 [] (some ⟨[2, 6, 7, 8, 42, 43, 44], true, [⟨true, 2, 0, 30200, 1⟩], []⟩)) (.seq (.region r165_33 [] (some ⟨[2, 6, 7, 9, 10, 42, 43, 44], true, [⟨true, 2, 0, 30200, 1⟩], []⟩)) (.seq (.seq (.region r165_36 [] (some ⟨[2, 6, 7, 9, 10, 42, 43, 44, 55], true, [⟨true, 2, 0, 30200, 1⟩], []⟩)) (.cond (.tmp 55) (.seq (.region r165_39 [] (some ⟨[2, 3, 4], true, [⟨true, 2, 0, 30200, 1⟩], []⟩)) .ret) .skip)) (.region r165_40 [] (some ⟨[2, 6, 42, 43, 44], true, [⟨true, 2, 0, 30200, 1⟩], []⟩)))))) (.region r165_41 [] (some ⟨[2, 6, 42, 43, 44], true, [⟨true, 2, 0, 30200, 1⟩], []⟩)))))
def c165_0_23 : MCode := c165_0_23g
theorem g165_0_23 : c165_0_23.Good Pg E165_0 sh165 := ⟨trivial, ⟨⟨trivial, trivial⟩, ⟨⟨trivial, ⟨trivial, ⟨⟨trivial, ⟨⟨trivial, trivial⟩, trivial⟩⟩, trivial⟩⟩⟩, trivial⟩⟩⟩
def S165_0_1g (g : Tf239_0) (α : Type) (h : Rows) (c a : Int) (b : Rows) (kn : Int -> Rows -> Op α) (k1 : Int -> Int -> Op α) (k2 : Int -> Bool -> Rows -> Op α) : Op α :=
 cK (decide (a < c))
 (rowK h a [.flt .f32]
 (fun i => g α i 0 65535
 (fun d e => cK (e != 0)
 (k1 a e)
 (gK (apOk 1 8 b [[DC.v (.int .i64 d)]]) (kn (w64 (a + 1)) (b ++ [[DC.v (.int .i64 d)]]))))))
 (k2 a (decide (a < c)) b)
def S165_0_1 (α : Type) (a : Rows) (b c : Int) (d : Rows) (kn : Int -> Rows -> Op α) (k1 : Int -> Int -> Op α) (k2 : Int -> Bool -> Rows -> Op α) : Op α := S165_0_1g f239_0 α a b c d kn k1 k2
def R165_0_1 (α : Type) (a : Rows) (b : Int) (k1 : Int -> Int -> Op α) (k2 : Int -> Bool -> Rows -> Op α) : Nat -> Int -> Rows -> Op α
 | 0, _, _ => none
 | n + 1, c, d => S165_0_1 α a b c d (R165_0_1 α a b k1 k2 n) k1 k2
def L165_0_1 (α : Type) (a : Rows) (b : Int) (k1 : Int -> Int -> Op α) (k2 : Int -> Bool -> Rows -> Op α) (c : Int) (d : Rows) : Op α := R165_0_1 α a b k1 k2 fuel c d
abbrev TL165_0_1 : Type 1 := (α : Type) -> Rows -> Int -> (Int -> Int -> Op α) -> (Int -> Bool -> Rows -> Op α) -> Int -> Rows -> Op α
def F165_0_1 (v : TL165_0_1) (α : Type) (K : KT α) : Rows -> Int -> Int -> Int -> Int -> Rows -> Int -> Int -> Rows -> Op α := fun c d e g h i j l m => v α c d (fun a b => u165_0_3 (K .ret) a b 0 0 ([] : Rows)) (fun a b o => u165_0_4 (K (.exit 1)) c d a b g h i j l o) e m
theorem r165_0_1g (p : Tf215_0) (o : Tf239_0) (α : Type) (K : KT α) (Kn : SK α) (a : Rows) (b c e g : Int) (h : Rows) (i j : Int) (d : Rows) : u165_0_2 (fun σ => runM Pg (E165_0g p o) sh165 (c165_0_23g ) (thenK (fun σ => tidyK td165_23 σ Kn) K) σ) a b c e g h i j d = S165_0_1g o α a b c d (fun c d => u165_0_2 Kn a b c e g h i j d) (fun l m => u165_0_3 (K .ret) l m 0 0 ([] : Rows)) (fun l m q => u165_0_4 (K (.exit 1)) a b l m e g h i j q) := by kernel_rfl
theorem r165_0_1 (α : Type) (K : KT α) (Kn : SK α) (a : Rows) (b c e g : Int) (h : Rows) (i j : Int) (d : Rows) : u165_0_2 (fun σ => runM Pg E165_0 sh165 c165_0_23 (thenK (fun σ => tidyK td165_23 σ Kn) K) σ) a b c e g h i j d = S165_0_1 α a b c d (fun c d => u165_0_2 Kn a b c e g h i j d) (fun l m => u165_0_3 (K .ret) l m 0 0 ([] : Rows)) (fun l m o => u165_0_4 (K (.exit 1)) a b l m e g h i j o) := r165_0_1g f215_0 f239_0 α K Kn a b c e g h i j d
theorem t165_0_1 (α : Type) (K : KT α) : ∀ (n : Nat) (a : Rows) (b c h i : Int) (j : Rows) (l m : Int) (d : Rows), R165_0_1 α a b (fun e g => u165_0_3 (K .ret) e g 0 0 ([] : Rows)) (fun e g o => u165_0_4 (K (.exit 1)) a b e g h i j l m o) n c d = u165_0_2 (loopT (runM Pg E165_0 sh165 c165_0_23) td165_23 K n) a b c h i j l m d := by
 intro n
 induction n with
 | zero => intros; rfl
 | succ n ih => intro a b c h i j l m d; exact (congrArg (fun kn => S165_0_1 α a b c d kn (fun e g => u165_0_3 (K .ret) e g 0 0 ([] : Rows)) (fun e g o => u165_0_4 (K (.exit 1)) a b e g h i j l m o)) (funext fun c => funext fun d => ih a b c h i j l m d)).trans (r165_0_1 α K (loopT (runM Pg E165_0 sh165 c165_0_23) td165_23 K n) a b c h i j l m d).symm
theorem m165_0_1 : ∀ (α : Type) (K : KT α), F165_0_1 L165_0_1 α K = p165_0_2.unc fun σ => loopT (runM Pg E165_0 sh165 c165_0_23) td165_23 K fuel σ := fun α K => by funext a b c d e g h i j; exact t165_0_1 α K fuel a b c d e g h i j
def c165_0_7g : MCode := (.region r165_8 [] (some ⟨[1, 2, 14], true, [⟨true, 2, 0, 30200, 1⟩], []⟩))
def c165_0_7 : MCode := c165_0_7g
theorem g165_0_7 : c165_0_7.Good Pg E165_0 sh165 := trivial
abbrev TJ165_0_0 : Type 1 := (α : Type) -> Int -> (Bool -> Op α) -> Op α
def J165_0_0g (b : Tf215_0) (α : Type) (a : Int) (k1 : Bool -> Op α) : Op α :=
 cK ((Int.tmod a 4) != 0)
 (k1 true)
 (b α a 4 64
 (fun c => k1 (!c)))
def J165_0_0 (α : Type) (a : Int) (k1 : Bool -> Op α) : Op α := J165_0_0g f215_0 α a k1
def F165_0_0 (v : TJ165_0_0) (α : Type) (K : KT α) : Int -> Rows -> Int -> Int -> Int -> Int -> Rows -> Op α := fun a b c d e g h => v α a (fun i => u165_0_1 (K .normal) i b c d e g h)
theorem m165_0_0g (a : Tf215_0) (b : Tf239_0) (α : Type) (K : KT α) : F165_0_0 (J165_0_0g a) α K = p165_0_0.unc fun σ => runM Pg (E165_0g a b) sh165 (c165_0_7g ) K σ := by kernel_rfl
theorem m165_0_0 : ∀ (α : Type) (K : KT α), F165_0_0 J165_0_0 α K = p165_0_0.unc fun σ => runM Pg E165_0 sh165 c165_0_7 K σ := m165_0_0g f215_0 f239_0
abbrev Tf165_0 : Type 1 := (α : Type) -> Rows -> Int -> Int -> (Rows -> I4 (Op α)) -> Op α
def f165_0g (e : TJ165_0_0) (g : TL165_0_1) (b : Tf215_0) (α : Type) (a : Rows) (c d : Int) (k1 : Rows -> I4 (Op α)) : Op α :=
 e α ((List.length a : Nat) : Int)
 (fun h => cK h
 (k1 ([] : Rows) 0 0 0 12)
 (b α c 0 65535
 (fun i => cK (!i)
 (k1 ([] : Rows) 0 0 0 2)
 (b α d 1 65536
 (fun j => cK (!j)
 (k1 ([] : Rows) 0 0 0 2)
 (g α a ((List.length a : Nat) : Int)
 (fun l m => k1 ([] : Rows) 0 0 l m)
 (fun p q o => k1 o c d 0 0) 0 ([] : Rows)))))))
def f165_0 (α : Type) (a : Rows) (b c : Int) (k1 : Rows -> I4 (Op α)) : Op α := f165_0g J165_0_0 L165_0_1 f215_0 α a b c k1
def pa165_0 : PT (List DV) := pA [pV true [dL, (dI .i64), (dI .i64)]]
def Fn165_0 (v : Tf165_0) (α : Type) (k : RT α) : Rows -> Int -> Int -> Op α := fun a b c => v α a b c (fun d e g h i => ur165_0_0 k d e g h i)
def cm165_0g (a : TJ165_0_0) (b : TL165_0_1) : MCode := (.seq (.region r165_2 [] (some ⟨[1, 2], true, [⟨true, 2, 0, 30200, 1⟩], []⟩)) (.seq (.seq (.region r165_5 [] (some ⟨[1, 2, 5], true, [⟨true, 2, 0, 30200, 1⟩], []⟩)) (.block 0 (.seq (.mark [⟨p165_0_0, F165_0_0 a⟩] c165_0_7) (.cond (.tmp 14) (.seq (.region r165_11 [] (some ⟨[2, 3, 4], true, [⟨true, 2, 0, 30200, 1⟩], []⟩)) .ret) (.seq (.region r165_13 [] (some ⟨[1, 2, 24], true, [⟨true, 2, 0, 30200, 1⟩], []⟩)) (.cond (.tmp 24) (.seq (.region r165_16 [] (some ⟨[2, 3, 4], true, [⟨true, 2, 0, 30200, 1⟩], []⟩)) .ret) .skip)))))) (.seq (.region r165_18 [] (some ⟨[1, 2, 6], true, [⟨true, 2, 0, 30200, 1⟩], []⟩)) (.seq (.seq (.region r165_21 [] (some ⟨[2, 6, 42, 43, 44], true, [⟨true, 2, 0, 30200, 1⟩], []⟩)) (.block 1 (.loop td165_23 [⟨p165_0_2, F165_0_1 b⟩] c165_0_23))) (.seq (.region r165_43 [] (some ⟨[2, 3, 4], true, [⟨true, 2, 0, 30200, 1⟩], []⟩)) .ret)))))
def cm165_0 : MCode := cm165_0g J165_0_0 L165_0_1
theorem gm165_0 : cm165_0.Good Pg E165_0 sh165 := ⟨trivial, ⟨⟨trivial, ⟨⟨g165_0_7, m165_0_0, trivial⟩, ⟨⟨trivial, trivial⟩, ⟨trivial, ⟨⟨trivial, trivial⟩, trivial⟩⟩⟩⟩⟩, ⟨trivial, ⟨⟨trivial, ⟨g165_0_23, m165_0_1, trivial⟩⟩, ⟨trivial, trivial⟩⟩⟩⟩⟩
theorem fm165_0g (a : Tf215_0) (d : Tf239_0) (b : TJ165_0_0) (c : TL165_0_1) (α : Type) (k : RT α) : Fn165_0 (f165_0g b c a) α k = pa165_0.unc fun ds => fnM Pg (E165_0g a d) sh165 (cm165_0g b c) rs165 k ds := by kernel_rfl
theorem fm165_0 : ∀ (α : Type) (k : RT α), Fn165_0 f165_0 α k = pa165_0.unc fun ds => fnM Pg E165_0 sh165 cm165_0 rs165 k ds := fm165_0g f215_0 f239_0 J165_0_0 L165_0_1
theorem is165 : FnIs Pg 165 nt165 tr165 tl165 cm165_0.erase rs165 := ⟨Tryz.f165, Tryz.func165, rfl, by kernel_rfl, by kernel_rfl, by kernel_rfl⟩
theorem io165_0 : InstOk Pg 165 nt165 ⟨pa165_0, Fn165_0 f165_0⟩ := inst_ok eo165_0 followsTry is165 ⟨⟨sh165, cm165_0, by kernel_rfl, gm165_0, fm165_0⟩⟩
abbrev nt174 : Nat := 21
def sh174 : SG := [(12, iS 2), (13, iS 2), (14, iS 2)]
def r174_2 : LA := [mK 4 0]
def r174_5 : LA := [oM 8 1, oO 9 (.len (.tmp 8)), mK 10 0]
def td174_7 : OT := (some ⟨[0, 8, 9, 10], true, [⟨false, 8, 0, 20008, 2⟩], []⟩)
def r174_9 : LA := [bT 11 .lss 10 9]
def r174_15 : LA := [oO 12 (.iaddr 2 none (.tmp 8) (.tmp 10)), lA 13 2 12, oO 6 (.alloc [(cI 0), (cI 0)]), sD 2 6 13]
def r174_17 : LA := [lA 14 2 6, oM 15 0, oO 16 (.call 245 [(.tmp 14), (.tmp 15)]), oM 7 16]
def r174_19 : LA := [oM 17 7, oO 18 (.bin .neq 28 (.tmp 17) (kI 0))]
def r174_22 : LA := [oM 19 7, oM 4 19]
def r174_23 : LA := [bK 20 .add 10 1, oM 10 20]
def r174_25 : LA := [mK 4 0]
def tr174 : TG := [tT 0 [0, 1], tT 1 [0, 8, 9, 10], tT 2 [0, 8, 9, 10, 11], tT 3 [0, 6, 8, 9, 10], tT 4 [0, 7, 8, 9, 10], tT 5 [0, 7, 8, 9, 10, 18], tT 6 [4], tT 7 [0, 8, 9, 10], tT 8 [4]]
def tl174 : TG := [(2, ⟨[0, 8, 9, 10], true, [⟨false, 8, 0, 20008, 2⟩], []⟩)]
def rs174 : List AResV := [.tmp 4]
def p174_0_0 : PT St := pS [sI 0, sl 8 (aV false [(cD dL)]), sI 9, sI 10] []
def u174_0_0 {β : Type} (g : St -> β) : Int -> Rows -> Int -> Int -> β := p174_0_0.unc g
def p174_0_1 : PT St := pS [sI 4] []
def u174_0_1 {β : Type} (g : St -> β) : Int -> β := p174_0_1.unc g
def p174_0_2 : PT St := pS [sI 0, sl 8 (aV false [(cD dL)]), sI 9, sI 10, sl 11 (aV false [(cD dB)])] []
def u174_0_2 {β : Type} (g : St -> β) : Int -> Rows -> Int -> Int -> Bool -> β := p174_0_2.unc g
def pr174_0_0 : PT (List RV) := pRs [wI]
def ur174_0_0 {β : Type} (g : List RV -> β) : Int -> β := pr174_0_0.unc g
def E174_0g (a : Tf245_0) : EnvK := EnvK.of [⟨245, nt245, [⟨pa245_0, Fn245_0 a⟩]⟩] noSeq
def E174_0 : EnvK := E174_0g f245_0
theorem eo174_0 : E174_0.Ok Pg := EnvK.of_ok noSeq_ok ⟨⟨io245_0, trivial⟩, trivial⟩
def c174_0_7g : MCode := (.seq (.region r174_9 [] (tO [0, 8, 9, 10, 11])) (.seq (.cond (.tmp 11) .skip (.exit 0)) (.seq (.block 1 (.seq (.region r174_15 [] (tO [0, 6, 8, 9, 10])) (.seq (.region r174_17 [] (tO [0, 7, 8, 9, 10])) (.seq (.region r174_19 [] (tO [0, 7, 8, 9, 10, 18])) (.cond (.tmp 18) (.seq (.region r174_22 [] (tO [4])) .ret) .skip))))) (.region r174_23 [] (tO [0, 8, 9, 10])))))
def c174_0_7 : MCode := c174_0_7g
theorem g174_0_7 : c174_0_7.Good Pg E174_0 sh174 := ⟨trivial, ⟨⟨trivial, trivial⟩, ⟨⟨trivial, ⟨trivial, ⟨trivial, ⟨⟨trivial, trivial⟩, trivial⟩⟩⟩⟩, trivial⟩⟩⟩
def S174_0_0g (d : Tf245_0) (α : Type) (e : Int) (g : Rows) (b a : Int) (kn : Int -> Op α) (k1 : Int -> Op α) (k2 : Int -> Bool -> Op α) : Op α :=
 cK (decide (a < b))
 (rowK g a [.int .i64, .int .i64]
 (fun h i => d α h i e
 (fun c => cK (c != 0)
 (k1 c)
 (kn (w64 (a + 1))))))
 (k2 a (decide (a < b)))
def S174_0_0 (α : Type) (a : Int) (b : Rows) (c d : Int) (kn : Int -> Op α) (k1 : Int -> Op α) (k2 : Int -> Bool -> Op α) : Op α := S174_0_0g f245_0 α a b c d kn k1 k2
def R174_0_0 (α : Type) (a : Int) (b : Rows) (c : Int) (k1 : Int -> Op α) (k2 : Int -> Bool -> Op α) : Nat -> Int -> Op α
 | 0, _ => none
 | n + 1, d => S174_0_0 α a b c d (R174_0_0 α a b c k1 k2 n) k1 k2
def L174_0_0 (α : Type) (a : Int) (b : Rows) (c : Int) (k1 : Int -> Op α) (k2 : Int -> Bool -> Op α) (d : Int) : Op α := R174_0_0 α a b c k1 k2 fuel d
abbrev TL174_0_0 : Type 1 := (α : Type) -> Int -> Rows -> Int -> (Int -> Op α) -> (Int -> Bool -> Op α) -> Int -> Op α
def F174_0_0 (v : TL174_0_0) (α : Type) (K : KT α) : Int -> Rows -> Int -> Int -> Op α := fun b c d e => v α b c d (fun a => u174_0_1 (K .ret) a) (fun a g => u174_0_2 (K (.exit 0)) b c d a g) e
theorem r174_0_0g (g : Tf245_0) (α : Type) (K : KT α) (Kn : SK α) (a : Int) (b : Rows) (c d : Int) : u174_0_0 (fun σ => runM Pg (E174_0g g) sh174 (c174_0_7g ) (thenK (fun σ => tidyK td174_7 σ Kn) K) σ) a b c d = S174_0_0g g α a b c d (fun d => u174_0_0 Kn a b c d) (fun e => u174_0_1 (K .ret) e) (fun e h => u174_0_2 (K (.exit 0)) a b c e h) := by kernel_rfl
theorem r174_0_0 (α : Type) (K : KT α) (Kn : SK α) (a : Int) (b : Rows) (c d : Int) : u174_0_0 (fun σ => runM Pg E174_0 sh174 c174_0_7 (thenK (fun σ => tidyK td174_7 σ Kn) K) σ) a b c d = S174_0_0 α a b c d (fun d => u174_0_0 Kn a b c d) (fun e => u174_0_1 (K .ret) e) (fun e g => u174_0_2 (K (.exit 0)) a b c e g) := r174_0_0g f245_0 α K Kn a b c d
theorem t174_0_0 (α : Type) (K : KT α) : ∀ (n : Nat) (a : Int) (b : Rows) (c d : Int), R174_0_0 α a b c (fun e => u174_0_1 (K .ret) e) (fun e g => u174_0_2 (K (.exit 0)) a b c e g) n d = u174_0_0 (loopT (runM Pg E174_0 sh174 c174_0_7) td174_7 K n) a b c d := by
 intro n
 induction n with
 | zero => intros; rfl
 | succ n ih => intro a b c d; exact (congrArg (fun kn => S174_0_0 α a b c d kn (fun e => u174_0_1 (K .ret) e) (fun e g => u174_0_2 (K (.exit 0)) a b c e g)) (funext fun d => ih a b c d)).trans (r174_0_0 α K (loopT (runM Pg E174_0 sh174 c174_0_7) td174_7 K n) a b c d).symm
theorem m174_0_0 : ∀ (α : Type) (K : KT α), F174_0_0 L174_0_0 α K = p174_0_0.unc fun σ => loopT (runM Pg E174_0 sh174 c174_0_7) td174_7 K fuel σ := fun α K => by funext a b c d; exact t174_0_0 α K fuel a b c d
abbrev Tf174_0 : Type 1 := (α : Type) -> Int -> Rows -> (Int -> Op α) -> Op α
def f174_0g (b : TL174_0_0) (α : Type) (c : Int) (a : Rows) (k1 : Int -> Op α) : Op α :=
 b α c a ((List.length a : Nat) : Int)
 (fun d => k1 d)
 (fun e g => k1 0) 0
def f174_0 (α : Type) (a : Int) (b : Rows) (k1 : Int -> Op α) : Op α := f174_0g L174_0_0 α a b k1
def pa174_0 : PT (List DV) := pA [vI, pV false [dL]]
def Fn174_0 (v : Tf174_0) (α : Type) (k : RT α) : Int -> Rows -> Op α := fun a b => v α a b (fun c => ur174_0_0 k c)
def cm174_0g (a : TL174_0_0) : MCode := (.seq (.region r174_2 [] (tO [0, 1])) (.seq (.seq (.region r174_5 [] (tO [0, 8, 9, 10])) (.block 0 (.loop td174_7 [⟨p174_0_0, F174_0_0 a⟩] c174_0_7))) (.seq (.region r174_25 [] (tO [4])) .ret)))
def cm174_0 : MCode := cm174_0g L174_0_0
theorem gm174_0 : cm174_0.Good Pg E174_0 sh174 := ⟨trivial, ⟨⟨trivial, ⟨g174_0_7, m174_0_0, trivial⟩⟩, ⟨trivial, trivial⟩⟩⟩
theorem fm174_0g (b : Tf245_0) (a : TL174_0_0) (α : Type) (k : RT α) : Fn174_0 (f174_0g a) α k = pa174_0.unc fun ds => fnM Pg (E174_0g b) sh174 (cm174_0g a) rs174 k ds := by kernel_rfl
theorem fm174_0 : ∀ (α : Type) (k : RT α), Fn174_0 f174_0 α k = pa174_0.unc fun ds => fnM Pg E174_0 sh174 cm174_0 rs174 k ds := fm174_0g f245_0 L174_0_0
theorem is174 : FnIs Pg 174 nt174 tr174 tl174 cm174_0.erase rs174 := ⟨Tryz.f174, Tryz.func174, rfl, by kernel_rfl, by kernel_rfl, by kernel_rfl⟩
theorem io174_0 : InstOk Pg 174 nt174 ⟨pa174_0, Fn174_0 f174_0⟩ := inst_ok eo174_0 followsTry is174 ⟨⟨sh174, cm174_0, by kernel_rfl, gm174_0, fm174_0⟩⟩
abbrev nt312 : Nat := 6
def sh312 : SG := []
def r312_2 : LA := [oO 2 (.mv (.const (.bool false)))]
def r312_4 : LA := [oM 3 0, oO 4 (.call 313 [.tmp 3]), oO 5 (.pure (oB (.unOp .not 4 (.tmp 4)) 4)), oM 2 5]
def tr312 : TG := [tT 0 [0], tT 1 [2]]
def tl312 : TG := []
def rs312 : List AResV := [.tmp 2]
def pr312_0_0 : PT (List RV) := pRs [pR false [rD dB]]
def ur312_0_0 {β : Type} (g : List RV -> β) : Bool -> β := pr312_0_0.unc g
def E312_0g (a : Tf313_0) : EnvK := EnvK.of [⟨313, nt313, [⟨pa313_0, Fn313_0 a⟩]⟩] noSeq
def E312_0 : EnvK := E312_0g f313_0
theorem eo312_0 : E312_0.Ok Pg := EnvK.of_ok noSeq_ok ⟨⟨io313_0, trivial⟩, trivial⟩
abbrev Tf312_0 : Type 1 := (α : Type) -> Int -> (Bool -> Op α) -> Op α
def f312_0g (a : Tf313_0) (α : Type) (b : Int) (k1 : Bool -> Op α) : Op α :=
 a α b
 (fun c => k1 (!c))
def f312_0 (α : Type) (a : Int) (k1 : Bool -> Op α) : Op α := f312_0g f313_0 α a k1
def pa312_0 : PT (List DV) := pA [vI]
def Fn312_0 (v : Tf312_0) (α : Type) (k : RT α) : Int -> Op α := fun a => v α a (fun b => ur312_0_0 k b)
def cm312_0g : MCode := (.seq (.region r312_2 [] (tO [0])) (.seq (.region r312_4 [] (tO [2])) .ret))
def cm312_0 : MCode := cm312_0g
theorem gm312_0 : cm312_0.Good Pg E312_0 sh312 := ⟨trivial, ⟨trivial, trivial⟩⟩
theorem fm312_0g (a : Tf313_0) (α : Type) (k : RT α) : Fn312_0 (f312_0g a) α k = pa312_0.unc fun ds => fnM Pg (E312_0g a) sh312 (cm312_0g ) rs312 k ds := by kernel_rfl
theorem fm312_0 : ∀ (α : Type) (k : RT α), Fn312_0 f312_0 α k = pa312_0.unc fun ds => fnM Pg E312_0 sh312 cm312_0 rs312 k ds := fm312_0g f313_0
theorem is312 : FnIs Pg 312 nt312 tr312 tl312 cm312_0.erase rs312 := ⟨Tryz.f312, Tryz.func312, rfl, by kernel_rfl, by kernel_rfl, by kernel_rfl⟩
theorem io312_0 : InstOk Pg 312 nt312 ⟨pa312_0, Fn312_0 f312_0⟩ := inst_ok eo312_0 followsTry is312 ⟨⟨sh312, cm312_0, by kernel_rfl, gm312_0, fm312_0⟩⟩
abbrev nt214 : Nat := 40
def sh214 : SG := [(13, [.cpx .f64]), (14, [.cpx .f64])]
def r214_2 : LA := [mK 4 0]
def r214_5 : LA := [oM 9 1, oO 10 (.len (.tmp 9)), mK 11 0]
def td214_7 : OT := (some ⟨[0, 9, 10, 11], true, [⟨false, 9, 0, 20009, 1⟩], []⟩)
def r214_9 : LA := [bT 12 .lss 11 10]
def r214_15 : LA := [oO 13 (.iaddr 1 none (.tmp 9) (.tmp 11)), lD 14 13, oM 6 14]
def r214_17 : LA := [oM 15 6, oO 16 (.pure (oB (.call { callee := .builtin .real, args := #[(.tmp 15)], argTypes := #[98] }) 231)), oM 17 6, oO 18 (.pure (oB (.call { callee := .builtin .imag, args := #[(.tmp 17)], argTypes := #[98] }) 231)), oM 7 16, oM 8 18]
def r214_20 : LA := [oM 20 7, oO 21 (.call 272 [.tmp 20]), oO 22 (.pure (oB (.unOp .not 4 (.tmp 21)) 4)), oM 23 22, oG 24 (.mv (.tmp 8)) 23 false, oG 25 (.call 272 [.tmp 24]) 23 false, oG 26 (.pure (oB (.unOp .not 4 (.tmp 25)) 4)) 23 false, oO 27 (.pick (.tmp 23) (.const (.bool true)) (.tmp 26)), oM 19 27]
def r214_23 : LA := [mK 4 27]
def r214_25 : LA := [oM 29 7, oO 30 (.call 273 [.tmp 29]), oM 31 0, oO 32 (.bin .gtr 231 (.tmp 30) (.tmp 31)), oM 33 32, oG 34 (.mv (.tmp 8)) 33 false, oG 35 (.call 273 [.tmp 34]) 33 false, oG 36 (.mv (.tmp 0)) 33 false, oG 37 (.bin .gtr 231 (.tmp 35) (.tmp 36)) 33 false, oO 38 (.pick (.tmp 33) (.const (.bool true)) (.tmp 37)), oM 28 38]
def r214_28 : LA := [mK 4 2]
def r214_29 : LA := [bK 39 .add 11 1, oM 11 39]
def r214_31 : LA := [mK 4 0]
def tr214 : TG := [tT 0 [0, 1], tT 1 [0, 9, 10, 11], tT 2 [0, 9, 10, 11, 12], tT 3 [0, 6, 9, 10, 11], tT 4 [0, 7, 8, 9, 10, 11], tT 5 [0, 7, 8, 9, 10, 11, 19], tT 6 [4], tT 7 [0, 9, 10, 11, 28], tT 8 [4], tT 9 [0, 9, 10, 11], tT 10 [4]]
def tl214 : TG := [(2, ⟨[0, 9, 10, 11], true, [⟨false, 9, 0, 20009, 1⟩], []⟩)]
def rs214 : List AResV := [.tmp 4]
def p214_0_0 : PT St := pS [sl 0 (aV false [(cD (dF .f64))]), sl 7 (aV false [(cD (dF .f64))]), sl 8 (aV false [(cD (dF .f64))]), sl 9 (aV false [(cD dL)]), sI 10, sI 11] []
def u214_0_0 {β : Type} (g : St -> β) : Nat -> Nat -> Nat -> Rows -> Int -> Int -> β := p214_0_0.unc g
def p214_0_1 : PT St := pS [sl 0 (aV false [(cD (dF .f64))]), sl 7 (aV false [(cD (dF .f64))]), sl 8 (aV false [(cD (dF .f64))]), sl 9 (aV false [(cD dL)]), sI 10, sI 11, sl 19 (aV false [(cD dB)])] []
def u214_0_1 {β : Type} (g : St -> β) : Nat -> Nat -> Nat -> Rows -> Int -> Int -> Bool -> β := p214_0_1.unc g
def p214_0_2 : PT St := pS [sl 0 (aV false [(cD (dF .f64))]), sl 9 (aV false [(cD dL)]), sI 10, sI 11] []
def u214_0_2 {β : Type} (g : St -> β) : Nat -> Rows -> Int -> Int -> β := p214_0_2.unc g
def p214_0_3 : PT St := pS [sI 4] []
def u214_0_3 {β : Type} (g : St -> β) : Int -> β := p214_0_3.unc g
def p214_0_4 : PT St := pS [sl 0 (aV false [(cD (dF .f64))]), sl 9 (aV false [(cD dL)]), sI 10, sI 11, sl 12 (aV false [(cD dB)])] []
def u214_0_4 {β : Type} (g : St -> β) : Nat -> Rows -> Int -> Int -> Bool -> β := p214_0_4.unc g
def pr214_0_0 : PT (List RV) := pRs [wI]
def ur214_0_0 {β : Type} (g : List RV -> β) : Int -> β := pr214_0_0.unc g
def E214_0g (a : Tf272_0) (b : Tf273_0) : EnvK := EnvK.of [⟨272, nt272, [⟨pa272_0, Fn272_0 a⟩]⟩, ⟨273, nt273, [⟨pa273_0, Fn273_0 b⟩]⟩] noSeq
def E214_0 : EnvK := E214_0g f272_0 f273_0
theorem eo214_0 : E214_0.Ok Pg := EnvK.of_ok noSeq_ok ⟨⟨io272_0, trivial⟩, ⟨io273_0, trivial⟩, trivial⟩
def c214_0_19g : MCode := (.region r214_20 [] (tO [0, 7, 8, 9, 10, 11, 19]))
def c214_0_19 : MCode := c214_0_19g
theorem g214_0_19 : c214_0_19.Good Pg E214_0 sh214 := trivial
abbrev TJ214_0_0 : Type 1 := (α : Type) -> Nat -> Nat -> (Bool -> Op α) -> Op α
def J214_0_0g (a : Tf272_0) (α : Type) (b c : Nat) (k1 : Bool -> Op α) : Op α :=
 a α b
 (fun d => cK (!d)
 (k1 true)
 (a α c
 (fun e => k1 (!e))))
def J214_0_0 (α : Type) (a b : Nat) (k1 : Bool -> Op α) : Op α := J214_0_0g f272_0 α a b k1
def F214_0_0 (v : TJ214_0_0) (α : Type) (K : KT α) : Nat -> Nat -> Nat -> Rows -> Int -> Int -> Op α := fun c a b d e g => v α a b (fun h => u214_0_1 (K .normal) c a b d e g h)
theorem m214_0_0g (a : Tf272_0) (b : Tf273_0) (α : Type) (K : KT α) : F214_0_0 (J214_0_0g a) α K = p214_0_0.unc fun σ => runM Pg (E214_0g a b) sh214 (c214_0_19g ) K σ := by kernel_rfl
theorem m214_0_0 : ∀ (α : Type) (K : KT α), F214_0_0 J214_0_0 α K = p214_0_0.unc fun σ => runM Pg E214_0 sh214 c214_0_19 K σ := m214_0_0g f272_0 f273_0
def c214_0_7g (a : TJ214_0_0) : MCode := (.seq (.region r214_9 [] (tO [0, 9, 10, 11, 12])) (.seq (.cond (.tmp 12) .skip (.exit 0)) (.seq (.block 1 (.seq (.region r214_15 [] (tO [0, 6, 9, 10, 11])) (.seq (.region r214_17 [] (tO [0, 7, 8, 9, 10, 11])) (.block 2 (.seq (.mark [⟨p214_0_0, F214_0_0 a⟩] c214_0_19) (.cond (.tmp 19) (.seq (.region r214_23 [] (tO [4])) .ret) (.seq (.region r214_25 [] (tO [0, 9, 10, 11, 28])) (.cond (.tmp 28) (.seq (.region r214_28 [] (tO [4])) .ret) .skip)))))))) (.region r214_29 [] (tO [0, 9, 10, 11])))))
def c214_0_7 : MCode := c214_0_7g J214_0_0
theorem g214_0_7 : c214_0_7.Good Pg E214_0 sh214 := ⟨trivial, ⟨⟨trivial, trivial⟩, ⟨⟨trivial, ⟨trivial, ⟨⟨g214_0_19, m214_0_0, trivial⟩, ⟨⟨trivial, trivial⟩, ⟨trivial, ⟨⟨trivial, trivial⟩, trivial⟩⟩⟩⟩⟩⟩, trivial⟩⟩⟩
def S214_0_1g (h : TJ214_0_0) (b : Tf273_0) (α : Type) (c : Nat) (i : Rows) (d a : Int) (kn : Int -> Op α) (k1 : Int -> Op α) (k2 : Int -> Bool -> Op α) : Op α :=
 cK (decide (a < d))
 (rowK i a [.cpx .f64]
 (fun e g => h α e g
 (fun j => cK j
 (k1 27)
 (b α e
 (fun l => cK ((FloatKind.format .f64).order l c == some Ordering.gt)
 (k1 2)
 (b α g
 (fun m => cK ((FloatKind.format .f64).order m c == some Ordering.gt)
 (k1 2)
 (kn (w64 (a + 1))))))))))
 (k2 a (decide (a < d)))
def S214_0_1 (α : Type) (a : Nat) (b : Rows) (c d : Int) (kn : Int -> Op α) (k1 : Int -> Op α) (k2 : Int -> Bool -> Op α) : Op α := S214_0_1g J214_0_0 f273_0 α a b c d kn k1 k2
def R214_0_1 (α : Type) (a : Nat) (b : Rows) (c : Int) (k1 : Int -> Op α) (k2 : Int -> Bool -> Op α) : Nat -> Int -> Op α
 | 0, _ => none
 | n + 1, d => S214_0_1 α a b c d (R214_0_1 α a b c k1 k2 n) k1 k2
def L214_0_1 (α : Type) (a : Nat) (b : Rows) (c : Int) (k1 : Int -> Op α) (k2 : Int -> Bool -> Op α) (d : Int) : Op α := R214_0_1 α a b c k1 k2 fuel d
abbrev TL214_0_1 : Type 1 := (α : Type) -> Nat -> Rows -> Int -> (Int -> Op α) -> (Int -> Bool -> Op α) -> Int -> Op α
def F214_0_1 (v : TL214_0_1) (α : Type) (K : KT α) : Nat -> Rows -> Int -> Int -> Op α := fun b c d e => v α b c d (fun a => u214_0_3 (K .ret) a) (fun a g => u214_0_4 (K (.exit 0)) b c d a g) e
theorem r214_0_1g (i : Tf272_0) (g : Tf273_0) (h : TJ214_0_0) (α : Type) (K : KT α) (Kn : SK α) (a : Nat) (b : Rows) (c d : Int) : u214_0_2 (fun σ => runM Pg (E214_0g i g) sh214 (c214_0_7g h) (thenK (fun σ => tidyK td214_7 σ Kn) K) σ) a b c d = S214_0_1g h g α a b c d (fun d => u214_0_2 Kn a b c d) (fun e => u214_0_3 (K .ret) e) (fun e j => u214_0_4 (K (.exit 0)) a b c e j) := by kernel_rfl
theorem r214_0_1 (α : Type) (K : KT α) (Kn : SK α) (a : Nat) (b : Rows) (c d : Int) : u214_0_2 (fun σ => runM Pg E214_0 sh214 c214_0_7 (thenK (fun σ => tidyK td214_7 σ Kn) K) σ) a b c d = S214_0_1 α a b c d (fun d => u214_0_2 Kn a b c d) (fun e => u214_0_3 (K .ret) e) (fun e g => u214_0_4 (K (.exit 0)) a b c e g) := r214_0_1g f272_0 f273_0 J214_0_0 α K Kn a b c d
theorem t214_0_1 (α : Type) (K : KT α) : ∀ (n : Nat) (a : Nat) (b : Rows) (c d : Int), R214_0_1 α a b c (fun e => u214_0_3 (K .ret) e) (fun e g => u214_0_4 (K (.exit 0)) a b c e g) n d = u214_0_2 (loopT (runM Pg E214_0 sh214 c214_0_7) td214_7 K n) a b c d := by
 intro n
 induction n with
 | zero => intros; rfl
 | succ n ih => intro a b c d; exact (congrArg (fun kn => S214_0_1 α a b c d kn (fun e => u214_0_3 (K .ret) e) (fun e g => u214_0_4 (K (.exit 0)) a b c e g)) (funext fun d => ih a b c d)).trans (r214_0_1 α K (loopT (runM Pg E214_0 sh214 c214_0_7) td214_7 K n) a b c d).symm
theorem m214_0_1 : ∀ (α : Type) (K : KT α), F214_0_1 L214_0_1 α K = p214_0_2.unc fun σ => loopT (runM Pg E214_0 sh214 c214_0_7) td214_7 K fuel σ := fun α K => by funext a b c d; exact t214_0_1 α K fuel a b c d
abbrev Tf214_0 : Type 1 := (α : Type) -> Nat -> Rows -> (Int -> Op α) -> Op α
def f214_0g (b : TL214_0_1) (α : Type) (c : Nat) (a : Rows) (k1 : Int -> Op α) : Op α :=
 b α c a ((List.length a : Nat) : Int)
 (fun d => k1 d)
 (fun e g => k1 0) 0
def f214_0 (α : Type) (a : Nat) (b : Rows) (k1 : Int -> Op α) : Op α := f214_0g L214_0_1 α a b k1
def pa214_0 : PT (List DV) := pA [pV false [(dF .f64)], pV false [dL]]
def Fn214_0 (v : Tf214_0) (α : Type) (k : RT α) : Nat -> Rows -> Op α := fun a b => v α a b (fun c => ur214_0_0 k c)
def cm214_0g (a : TL214_0_1) : MCode := (.seq (.region r214_2 [] (tO [0, 1])) (.seq (.seq (.region r214_5 [] (tO [0, 9, 10, 11])) (.block 0 (.loop td214_7 [⟨p214_0_2, F214_0_1 a⟩] c214_0_7))) (.seq (.region r214_31 [] (tO [4])) .ret)))
def cm214_0 : MCode := cm214_0g L214_0_1
theorem gm214_0 : cm214_0.Good Pg E214_0 sh214 := ⟨trivial, ⟨⟨trivial, ⟨g214_0_7, m214_0_1, trivial⟩⟩, ⟨trivial, trivial⟩⟩⟩
theorem fm214_0g (b : Tf272_0) (c : Tf273_0) (a : TL214_0_1) (α : Type) (k : RT α) : Fn214_0 (f214_0g a) α k = pa214_0.unc fun ds => fnM Pg (E214_0g b c) sh214 (cm214_0g a) rs214 k ds := by kernel_rfl
theorem fm214_0 : ∀ (α : Type) (k : RT α), Fn214_0 f214_0 α k = pa214_0.unc fun ds => fnM Pg E214_0 sh214 cm214_0 rs214 k ds := fm214_0g f272_0 f273_0 L214_0_1
theorem is214 : FnIs Pg 214 nt214 tr214 tl214 cm214_0.erase rs214 := ⟨Tryz.f214, Tryz.func214, rfl, by kernel_rfl, by kernel_rfl, by kernel_rfl⟩
theorem io214_0 : InstOk Pg 214 nt214 ⟨pa214_0, Fn214_0 f214_0⟩ := inst_ok eo214_0 followsTry is214 ⟨⟨sh214, cm214_0, by kernel_rfl, gm214_0, fm214_0⟩⟩
abbrev nt70 : Nat := 84
def sh70 : SG := [(12, [.sl, .int .i64, .int .i64]), (21, [.sl, .int .i64, .int .i64]), (27, [.sl]), (32, iT), (33, iT), (37, iT), (43, [.sl]), (46, iT), (48, iT), (51, iT), (54, iT), (58, iT), (62, iT), (64, iT), (69, iT), (73, iT), (75, iT), (80, iT)]
def r70_2 : LA := [oO 1 (.box (.tmp 0)), oO 2 (.alloc (zI 6)), mK 3 0]
def r70_4 : LA := [lA 12 3 1, oO 13 (.call 165 [.tmp 12]), oM 11 13, oO 14 (.extract 0 (.tmp 11)), oO 15 (.extract 1 (.tmp 11)), oO 16 (.extract 2 (.tmp 11)), oO 4 (.alloc [.nils, (cI 0), (cI 0)]), sD 3 4 14, oM 5 15, oM 6 16]
def r70_7 : LA := [oM 17 6, oO 18 (.bin .neq 28 (.tmp 17) (kI 0))]
def r70_10 : LA := [oO 19 (.build (zI 6) []), oM 20 6, sD 6 2 19, oM 3 20]
def r70_13 : LA := [lA 21 3 4, oO 22 (.call 166 [.tmp 21]), oO 23 (.len (.tmp 22)), bK 24 .gtr 23 0]
def r70_16 : LA := [oO 25 (.build (zI 6) []), sD 6 2 25, mK 3 16]
def r70_18 : LA := [oO 7 (.alloc (zI 4))]
def r70_21 : LA := [fA 26 0 4, lD 27 26, oO 28 (.len (.tmp 27)), mK 29 0]
def td70_23 : OT := (some ⟨[2, 4, 7, 27, 28, 29], true, [⟨false, 27, 0, 20027, 1⟩, ⟨true, 1, 0, 30100, 1⟩, ⟨true, 4, 0, 30400, 1⟩], []⟩)
def r70_25 : LA := [bT 30 .lss 29 28]
def r70_31 : LA := [oM 31 29, oO 32 (.iaddr 1 none (.tmp 27) (.tmp 29)), lD 33 32, oM 8 31, oM 9 33]
def r70_32 : LA := [oM 34 8, bK 35 .rem 34 4, oO 36 (.iaddr 1 (some 4) (.tmp 7) (.tmp 35)), lD 37 36, oM 38 9, bT 39 .add 37 38, oO 40 (.iaddr 1 (some 4) (.tmp 7) (.tmp 35)), sD 1 40 39]
def r70_33 : LA := [bK 41 .add 29 1, oM 29 41]
def r70_35 : LA := [fA 42 0 4, lD 43 42, oO 44 (.len (.tmp 43)), oM 10 44]
def r70_37 : LA := [oO 45 (.iaddr 1 (some 4) (.tmp 7) (kI 0)), lD 46 45, oO 47 (.iaddr 1 (some 4) (.tmp 7) (kI 1)), lD 48 47, bT 49 .add 46 48, oO 50 (.iaddr 1 (some 4) (.tmp 7) (kI 2)), lD 51 50, bT 52 .add 49 51, oO 53 (.iaddr 1 (some 4) (.tmp 7) (kI 3)), lD 54 53, bT 55 .add 52 54, oM 56 10, fA 57 1 4, lD 58 57, bT 59 .mul 56 58, oO 60 (.call 167 [(.tmp 55), (.tmp 59)]), oO 61 (.iaddr 1 (some 4) (.tmp 7) (kI 0)), lD 62 61, oO 63 (.iaddr 1 (some 4) (.tmp 7) (kI 2)), lD 64 63, bT 65 .sub 62 64, oM 66 10, bK 67 .quo 66 2, fA 68 1 4, lD 69 68, bT 70 .mul 67 69, oO 71 (.call 167 [(.tmp 65), (.tmp 70)]), oO 72 (.iaddr 1 (some 4) (.tmp 7) (kI 1)), lD 73 72, oO 74 (.iaddr 1 (some 4) (.tmp 7) (kI 3)), lD 75 74, bT 76 .sub 73 75, oM 77 10, bK 78 .quo 77 2, fA 79 1 4, lD 80 79, bT 81 .mul 78 80, oO 82 (.call 167 [(.tmp 76), (.tmp 81)]), oO 83 (.build (zI 6) [(0, 2, (.tmp 60)), (2, 2, (.tmp 71)), (4, 2, (.tmp 82))]), sD 6 2 83, mK 3 0]
def tr70 : TG := [tT 0 [1, 2], tT 1 [2, 4, 6], tT 2 [2, 4, 6, 18], tT 3 [2, 3], tT 4 [2, 4, 24], tT 5 [2, 3], tT 6 [2, 4, 7], tT 7 [2, 4, 7, 27, 28, 29], tT 8 [2, 4, 7, 27, 28, 29, 30], tT 9 [2, 4, 7, 8, 9, 27, 28, 29], tT 10 [2, 4, 7, 27, 28, 29], tT 11 [2, 4, 7, 27, 28, 29], tT 12 [2, 4, 7, 10], tT 13 [2, 3]]
def tl70 : TG := [(8, ⟨[2, 4, 7, 27, 28, 29], true, [⟨false, 27, 0, 20027, 1⟩, ⟨true, 1, 0, 30100, 1⟩, ⟨true, 4, 0, 30400, 1⟩], []⟩)]
def rs70 : List AResV := [.cell 2 true 6, .tmp 3]
def p70_0_0 : PT St := pS [sP 2, sP 4, sP 7, sl 27 (aV false [(cRef 30400)]), sI 28, sI 29, sl 30 (aV false [(cD dB)])] [eBox 2 (xs 6), eBox 4 [(cRef 30400), xI, xI], eOwn 30400 1, eBox 7 (xs 4)]
def u70_0_0 {β : Type} (g : St -> β) : Int -> Int -> Bool -> Int -> Int -> Int -> Int -> Int -> Int -> Int -> Int -> Rows -> I4 β := p70_0_0.unc g
def p70_0_1 : PT St := pS [sP 2, sP 4, sP 7, sl 27 (aV false [(cRef 30400)]), sI 28, sI 29] [eBox 2 (xs 6), eBox 4 [(cRef 30400), xI, xI], eOwn 30400 1, eBox 7 (xs 4)]
def u70_0_1 {β : Type} (g : St -> β) : Int -> Int -> Int -> Int -> Int -> Int -> Int -> Int -> Int -> Int -> Rows -> I4 β := p70_0_1.unc g
def pr70_0_0 : PT (List RV) := pRs [pR true [rD (dI .i64), rD (dI .i64), rD (dI .i64), rD (dI .i64), rD (dI .i64), rD (dI .i64)], wI]
def ur70_0_0 {β : Type} (g : List RV -> β) : I7 β := pr70_0_0.unc g
def E70_0g (a : Tf165_0) (b : Tf166_0) (c : Tf167_0) : EnvK := EnvK.of [⟨165, nt165, [⟨pa165_0, Fn165_0 a⟩]⟩, ⟨166, nt166, [⟨pa166_0, Fn166_0 b⟩]⟩, ⟨167, nt167, [⟨pa167_0, Fn167_0 c⟩]⟩] noSeq
def E70_0 : EnvK := E70_0g f165_0 f166_0 f167_0
theorem eo70_0 : E70_0.Ok Pg := EnvK.of_ok noSeq_ok ⟨⟨io165_0, trivial⟩, ⟨io166_0, trivial⟩, ⟨io167_0, trivial⟩, trivial⟩
def c70_0_28g : MCode := (.block 1 (.seq (.region r70_31 [] (tO [2, 4, 7, 8, 9, 27, 28, 29])) (.region r70_32 [] (tO [2, 4, 7, 27, 28, 29]))))
def c70_0_28 : MCode := c70_0_28g
theorem g70_0_28 : c70_0_28.Good Pg E70_0 sh70 := ⟨trivial, trivial⟩
abbrev TJ70_0_0 : Type 1 := (α : Type) -> Int -> Rows -> Int -> Int -> Int -> Int -> (I4 (Op α)) -> Op α
def J70_0_0g (α : Type) (a : Int) (h : Rows) (b c d e : Int) (k1 : I4 (Op α)) : Op α :=
 ixK h a 1
 (ldK h (Int.toNat a) 0 [.int .i64]
 (fun g => cK ((Int.tmod a 4) == 3)
 (cK ((Int.tmod a 4) == 3)
 (k1 b c d (w64 (e + g)))
 (cK ((Int.tmod a 4) == 2)
 (k1 b c (w64 (e + g)) e)
 (cK ((Int.tmod a 4) == 1)
 (k1 b (w64 (e + g)) d e)
 (cK ((Int.tmod a 4) == 0)
 (k1 (w64 (e + g)) c d e)
 (none)))))
 (cK ((Int.tmod a 4) == 2)
 (cK ((Int.tmod a 4) == 3)
 (k1 b c d (w64 (d + g)))
 (cK ((Int.tmod a 4) == 2)
 (k1 b c (w64 (d + g)) e)
 (cK ((Int.tmod a 4) == 1)
 (k1 b (w64 (d + g)) d e)
 (cK ((Int.tmod a 4) == 0)
 (k1 (w64 (d + g)) c d e)
 (none)))))
 (cK ((Int.tmod a 4) == 1)
 (cK ((Int.tmod a 4) == 3)
 (k1 b c d (w64 (c + g)))
 (cK ((Int.tmod a 4) == 2)
 (k1 b c (w64 (c + g)) e)
 (cK ((Int.tmod a 4) == 1)
 (k1 b (w64 (c + g)) d e)
 (cK ((Int.tmod a 4) == 0)
 (k1 (w64 (c + g)) c d e)
 (none)))))
 (cK ((Int.tmod a 4) == 0)
 (cK ((Int.tmod a 4) == 3)
 (k1 b c d (w64 (b + g)))
 (cK ((Int.tmod a 4) == 2)
 (k1 b c (w64 (b + g)) e)
 (cK ((Int.tmod a 4) == 1)
 (k1 b (w64 (b + g)) d e)
 (cK ((Int.tmod a 4) == 0)
 (k1 (w64 (b + g)) c d e)
 (none)))))
 (none))))))
def J70_0_0 (α : Type) (a : Int) (b : Rows) (c d e g : Int) (k1 : I4 (Op α)) : Op α := J70_0_0g α a b c d e g k1
def F70_0_0 (v : TJ70_0_0) (α : Type) (K : KT α) : Int -> Int -> Bool -> Int -> Int -> Int -> Int -> Int -> Int -> Int -> Int -> Rows -> I4 (Op α) := fun c a A d e g h i j l m b o p q r => v α a b o p q r (fun s t w z => u70_0_1 (K .normal) c a d e g h i j l m b s t w z)
theorem m70_0_0g (a : Tf165_0) (b : Tf166_0) (c : Tf167_0) (α : Type) (K : KT α) : F70_0_0 (J70_0_0g ) α K = p70_0_0.unc fun σ => runM Pg (E70_0g a b c) sh70 (c70_0_28g ) K σ := by kernel_rfl
theorem m70_0_0 : ∀ (α : Type) (K : KT α), F70_0_0 J70_0_0 α K = p70_0_0.unc fun σ => runM Pg E70_0 sh70 c70_0_28 K σ := m70_0_0g f165_0 f166_0 f167_0
def c70_0_23g (a : TJ70_0_0) : MCode := (.seq (.region r70_25 [] (tO [2, 4, 7, 27, 28, 29, 30])) (.seq (.cond (.tmp 30) .skip (.exit 0)) (.seq (.mark [⟨p70_0_0, F70_0_0 a⟩] c70_0_28) (.region r70_33 [] (tO [2, 4, 7, 27, 28, 29])))))
def c70_0_23 : MCode := c70_0_23g J70_0_0
theorem g70_0_23 : c70_0_23.Good Pg E70_0 sh70 := ⟨trivial, ⟨⟨trivial, trivial⟩, ⟨⟨g70_0_28, m70_0_0, trivial⟩, trivial⟩⟩⟩
def S70_0_1g (h : TJ70_0_0) (α : Type) (b : Int) (i : Rows) (a c d e g : Int) (kn : I5 (Op α)) (k1 : Int -> Bool -> I4 (Op α)) : Op α :=
 cK (decide (a < b))
 (h α a i c d e g
 (fun j l m o => kn (w64 (a + 1)) j l m o))
 (k1 a (decide (a < b)) c d e g)
def S70_0_1 (α : Type) (a : Int) (b : Rows) (c d e g h : Int) (kn : I5 (Op α)) (k1 : Int -> Bool -> I4 (Op α)) : Op α := S70_0_1g J70_0_0 α a b c d e g h kn k1
def R70_0_1 (α : Type) (a : Int) (b : Rows) (k1 : Int -> Bool -> I4 (Op α)) : Nat -> I5 (Op α)
 | 0, _, _, _, _, _ => none
 | n + 1, c, d, e, g, h => S70_0_1 α a b c d e g h (R70_0_1 α a b k1 n) k1
def L70_0_1 (α : Type) (a : Int) (b : Rows) (k1 : Int -> Bool -> I4 (Op α)) (c d e g h : Int) : Op α := R70_0_1 α a b k1 fuel c d e g h
abbrev TL70_0_1 : Type 1 := (α : Type) -> Int -> Rows -> (Int -> Bool -> I4 (Op α)) -> I5 (Op α)
def F70_0_1 (v : TL70_0_1) (α : Type) (K : KT α) : Int -> Int -> Int -> Int -> Int -> Int -> Int -> Int -> Int -> Int -> Rows -> I4 (Op α) := fun a c d e g h i j l m b o p q r => v α a b (fun s t w z A B => u70_0_0 (K (.exit 0)) a s t d e g h i j l m b w z A B) c o p q r
theorem r70_0_1g (t : Tf165_0) (w : Tf166_0) (z : Tf167_0) (s : TJ70_0_0) (α : Type) (K : KT α) (Kn : SK α) (a b i j l m o p q r : Int) (c : Rows) (d e g h : Int) : u70_0_1 (fun σ => runM Pg (E70_0g t w z) sh70 (c70_0_23g s) (thenK (fun σ => tidyK td70_23 σ Kn) K) σ) a b i j l m o p q r c d e g h = S70_0_1g s α a c b d e g h (fun b d e g h => u70_0_1 Kn a b i j l m o p q r c d e g h) (fun A B C D F G => u70_0_0 (K (.exit 0)) a A B i j l m o p q r c C D F G) := by kernel_rfl
theorem r70_0_1 (α : Type) (K : KT α) (Kn : SK α) (a b i j l m o p q r : Int) (c : Rows) (d e g h : Int) : u70_0_1 (fun σ => runM Pg E70_0 sh70 c70_0_23 (thenK (fun σ => tidyK td70_23 σ Kn) K) σ) a b i j l m o p q r c d e g h = S70_0_1 α a c b d e g h (fun b d e g h => u70_0_1 Kn a b i j l m o p q r c d e g h) (fun s t w z A B => u70_0_0 (K (.exit 0)) a s t i j l m o p q r c w z A B) := r70_0_1g f165_0 f166_0 f167_0 J70_0_0 α K Kn a b i j l m o p q r c d e g h
theorem t70_0_1 (α : Type) (K : KT α) : ∀ (n : Nat) (a c i j l m o p q r : Int) (b : Rows) (d e g h : Int), R70_0_1 α a b (fun s t w z A B => u70_0_0 (K (.exit 0)) a s t i j l m o p q r b w z A B) n c d e g h = u70_0_1 (loopT (runM Pg E70_0 sh70 c70_0_23) td70_23 K n) a c i j l m o p q r b d e g h := by
 intro n
 induction n with
 | zero => intros; rfl
 | succ n ih => intro a c i j l m o p q r b d e g h; exact (congrArg (fun kn => S70_0_1 α a b c d e g h kn (fun s t w z A B => u70_0_0 (K (.exit 0)) a s t i j l m o p q r b w z A B)) (funext fun c => funext fun d => funext fun e => funext fun g => funext fun h => ih a c i j l m o p q r b d e g h)).trans (r70_0_1 α K (loopT (runM Pg E70_0 sh70 c70_0_23) td70_23 K n) a c i j l m o p q r b d e g h).symm
theorem m70_0_1 : ∀ (α : Type) (K : KT α), F70_0_1 L70_0_1 α K = p70_0_1.unc fun σ => loopT (runM Pg E70_0 sh70 c70_0_23) td70_23 K fuel σ := fun α K => by funext a b c d e g h i j l m o p q r; exact t70_0_1 α K fuel a b c d e g h i j l m o p q r
abbrev Tf70_0 : Type 1 := (α : Type) -> Rows -> Int -> Int -> (I7 (Op α)) -> Op α
def f70_0g (l : TL70_0_1) (m : Tf165_0) (o : Tf166_0) (c : Tf167_0) (α : Type) (p : Rows) (q r : Int) (k1 : I7 (Op α)) : Op α :=
 m α p q r
 (fun a b s D d => cK (d != 0)
 (k1 0 0 0 0 0 0 d)
 (o α a b s
 (fun e => flatK [e]
 (cK (decide (0 < ((List.length e : Nat) : Int)))
 (k1 0 0 0 0 0 0 16)
 (l α ((List.length a : Nat) : Int) a
 (fun F G g h i j => c α (w64 ((w64 ((w64 (g + h)) + i)) + j)) (w64 (((List.length a : Nat) : Int) * b))
 (fun t w => c α (w64 (g - i)) (w64 ((w64 (Int.tdiv ((List.length a : Nat) : Int) 2)) * b))
 (fun z A => c α (w64 (h - j)) (w64 ((w64 (Int.tdiv ((List.length a : Nat) : Int) 2)) * b))
 (fun B C => k1 t w z A B C 0)))) 0 0 0 0 0)))))
def f70_0 (α : Type) (a : Rows) (b c : Int) (k1 : I7 (Op α)) : Op α := f70_0g L70_0_1 f165_0 f166_0 f167_0 α a b c k1
def pa70_0 : PT (List DV) := pA [pV true [dL, (dI .i64), (dI .i64)]]
def Fn70_0 (v : Tf70_0) (α : Type) (k : RT α) : Rows -> Int -> Int -> Op α := fun a b c => v α a b c (fun d e g h i j l => ur70_0_0 k d e g h i j l)
def cm70_0g (a : TL70_0_1) : MCode := (.seq (.region r70_2 [] (tO [1, 2])) (.seq (.region r70_4 [] (tO [2, 4, 6])) (.seq (.seq (.region r70_7 [] (tO [2, 4, 6, 18])) (.cond (.tmp 18) (.seq (.region r70_10 [] (tO [2, 3])) .ret) .skip)) (.seq (.seq (.region r70_13 [] (tO [2, 4, 24])) (.cond (.tmp 24) (.seq (.region r70_16 [] (tO [2, 3])) .ret) .skip)) (.seq (.region r70_18 [] (tO [2, 4, 7])) (.seq (.seq (.region r70_21 [] (tO [2, 4, 7, 27, 28, 29])) (.block 0 (.loop td70_23 [⟨p70_0_1, F70_0_1 a⟩] c70_0_23))) (.seq (.region r70_35 [] (tO [2, 4, 7, 10])) (.seq (.region r70_37 [(15, 17), (15, 19), (15, 24), (15, 28), (26, 28), (15, 30), (26, 30), (15, 35), (26, 35)] (tO [2, 3])) .ret))))))))
def cm70_0 : MCode := cm70_0g L70_0_1
theorem gm70_0 : cm70_0.Good Pg E70_0 sh70 := ⟨trivial, ⟨trivial, ⟨⟨trivial, ⟨⟨trivial, trivial⟩, trivial⟩⟩, ⟨⟨trivial, ⟨⟨trivial, trivial⟩, trivial⟩⟩, ⟨trivial, ⟨⟨trivial, ⟨g70_0_23, m70_0_1, trivial⟩⟩, ⟨trivial, ⟨trivial, trivial⟩⟩⟩⟩⟩⟩⟩⟩
theorem fm70_0g (a : Tf165_0) (b : Tf166_0) (c : Tf167_0) (d : TL70_0_1) (α : Type) (k : RT α) : Fn70_0 (f70_0g d a b c) α k = pa70_0.unc fun ds => fnM Pg (E70_0g a b c) sh70 (cm70_0g d) rs70 k ds := by kernel_rfl
theorem fm70_0 : ∀ (α : Type) (k : RT α), Fn70_0 f70_0 α k = pa70_0.unc fun ds => fnM Pg E70_0 sh70 cm70_0 rs70 k ds := fm70_0g f165_0 f166_0 f167_0 L70_0_1
theorem is70 : FnIs Pg 70 nt70 tr70 tl70 cm70_0.erase rs70 := ⟨Tryz.f70, Tryz.func70, rfl, by kernel_rfl, by kernel_rfl, by kernel_rfl⟩
theorem io70_0 : InstOk Pg 70 nt70 ⟨pa70_0, Fn70_0 f70_0⟩ := inst_ok eo70_0 followsTry is70 ⟨⟨sh70, cm70_0, by kernel_rfl, gm70_0, fm70_0⟩⟩
abbrev nt82 : Nat := 22
def sh82 : SG := [(5, [.str]), (7, iT), (9, iS 2), (15, iS 2), (17, iS 2), (19, iS 2)]
def r82_2 : LA := [oO 1 (.box (.tmp 0)), mK 2 0]
def r82_5 : LA := [fA 4 0 1, lD 5 4, fA 6 1 1, lD 7 6, fA 8 2 1, lA 9 2 8, oO 10 (.call 124 [(.tmp 5), (.tmp 7), (.tmp 9)]), oM 3 10]
def r82_7 : LA := [oM 11 3, oO 12 (.bin .neq 28 (.tmp 11) (kI 0))]
def r82_10 : LA := [oM 13 3, oM 2 13]
def r82_12 : LA := [fA 14 4 1, lA 15 2 14, fA 16 6 1, lA 17 2 16, fA 18 8 1, lA 19 2 18, oO 20 (.bslice 2 3 [(.v (.int .i64 0)), (.v (.int .i64 0))] [(0, (.tmp 15)), (1, (.tmp 17)), (2, (.tmp 19))]), oO 21 (.call 174 [(kI 1048576), (.tmp 20)]), oM 2 21]
def tr82 : TG := [tT 0 [1], tT 1 [1, 3], tT 2 [1, 3, 12], tT 3 [2], tT 4 [2]]
def tl82 : TG := []
def rs82 : List AResV := [.tmp 2]
def pr82_0_0 : PT (List RV) := pRs [wI]
def ur82_0_0 {β : Type} (g : List RV -> β) : Int -> β := pr82_0_0.unc g
def E82_0g (a : Tf124_0) (b : Tf174_0) : EnvK := EnvK.of [⟨124, nt124, [⟨pa124_0, Fn124_0 a⟩]⟩, ⟨174, nt174, [⟨pa174_0, Fn174_0 b⟩]⟩] noSeq
def E82_0 : EnvK := E82_0g f124_0 f174_0
theorem eo82_0 : E82_0.Ok Pg := EnvK.of_ok noSeq_ok ⟨⟨io124_0, trivial⟩, ⟨io174_0, trivial⟩, trivial⟩
abbrev Tf82_0 : Type 1 := (α : Type) -> BA -> Int -> Int -> Int -> Int -> Int -> Int -> Int -> Int -> Int -> (Int -> Op α) -> Op α
def f82_0g (b : Tf124_0) (c : Tf174_0) (α : Type) (d : BA) (e g h i j l m o p : Int) (k1 : Int -> Op α) : Op α :=
 b α d e g h
 (fun a => cK (a != 0)
 (k1 a)
 (c α 1048576 [[DC.v (.int .i64 i), DC.v (.int .i64 j)], [DC.v (.int .i64 l), DC.v (.int .i64 m)], [DC.v (.int .i64 o), DC.v (.int .i64 p)]]
 (fun q => k1 q)))
def f82_0 (α : Type) (a : BA) (b c d e g h i j l : Int) (k1 : Int -> Op α) : Op α := f82_0g f124_0 f174_0 α a b c d e g h i j l k1
def pa82_0 : PT (List DV) := pA [pV true [dS, (dI .i64), (dI .i64), (dI .i64), (dI .i64), (dI .i64), (dI .i64), (dI .i64), (dI .i64), (dI .i64)]]
def Fn82_0 (v : Tf82_0) (α : Type) (k : RT α) : BA -> I9 (Op α) := fun a b c d e g h i j l => v α a b c d e g h i j l (fun m => ur82_0_0 k m)
def cm82_0g : MCode := (.seq (.region r82_2 [] (tO [1])) (.seq (.seq (.region r82_5 [] (tO [1, 3])) (.seq (.region r82_7 [] (tO [1, 3, 12])) (.cond (.tmp 12) (.seq (.region r82_10 [] (tO [2])) .ret) .skip))) (.seq (.region r82_12 [] (tO [2])) .ret)))
def cm82_0 : MCode := cm82_0g
theorem gm82_0 : cm82_0.Good Pg E82_0 sh82 := ⟨trivial, ⟨⟨trivial, ⟨trivial, ⟨⟨trivial, trivial⟩, trivial⟩⟩⟩, ⟨trivial, trivial⟩⟩⟩
theorem fm82_0g (a : Tf124_0) (b : Tf174_0) (α : Type) (k : RT α) : Fn82_0 (f82_0g a b) α k = pa82_0.unc fun ds => fnM Pg (E82_0g a b) sh82 (cm82_0g ) rs82 k ds := by kernel_rfl
theorem fm82_0 : ∀ (α : Type) (k : RT α), Fn82_0 f82_0 α k = pa82_0.unc fun ds => fnM Pg E82_0 sh82 cm82_0 rs82 k ds := fm82_0g f124_0 f174_0
theorem is82 : FnIs Pg 82 nt82 tr82 tl82 cm82_0.erase rs82 := ⟨Tryz.f82, Tryz.func82, rfl, by kernel_rfl, by kernel_rfl, by kernel_rfl⟩
theorem io82_0 : InstOk Pg 82 nt82 ⟨pa82_0, Fn82_0 f82_0⟩ := inst_ok eo82_0 followsTry is82 ⟨⟨sh82, cm82_0, by kernel_rfl, gm82_0, fm82_0⟩⟩
abbrev nt125 : Nat := 11
def sh125 : SG := [(4, iS 2), (6, iS 2), (8, iS 2)]
def r125_2 : LA := [oO 1 (.box (.tmp 0)), mK 2 0]
def r125_4 : LA := [fA 3 0 1, lA 4 2 3, fA 5 2 1, lA 6 2 5, fA 7 4 1, lA 8 2 7, oO 9 (.bslice 2 3 [(.v (.int .i64 0)), (.v (.int .i64 0))] [(0, (.tmp 4)), (1, (.tmp 6)), (2, (.tmp 8))]), oO 10 (.call 174 [(kI 10000000), (.tmp 9)]), oM 2 10]
def tr125 : TG := [tT 0 [1], tT 1 [2]]
def tl125 : TG := []
def rs125 : List AResV := [.tmp 2]
def pr125_0_0 : PT (List RV) := pRs [wI]
def ur125_0_0 {β : Type} (g : List RV -> β) : Int -> β := pr125_0_0.unc g
def E125_0g (a : Tf174_0) : EnvK := EnvK.of [⟨174, nt174, [⟨pa174_0, Fn174_0 a⟩]⟩] noSeq
def E125_0 : EnvK := E125_0g f174_0
theorem eo125_0 : E125_0.Ok Pg := EnvK.of_ok noSeq_ok ⟨⟨io174_0, trivial⟩, trivial⟩
abbrev Tf125_0 : Type 1 := (α : Type) -> Int -> Int -> Int -> Int -> Int -> Int -> (Int -> Op α) -> Op α
def f125_0g (a : Tf174_0) (α : Type) (b c d e g h : Int) (k1 : Int -> Op α) : Op α :=
 a α 10000000 [[DC.v (.int .i64 b), DC.v (.int .i64 c)], [DC.v (.int .i64 d), DC.v (.int .i64 e)], [DC.v (.int .i64 g), DC.v (.int .i64 h)]]
 (fun i => k1 i)
def f125_0 (α : Type) (a b c d e g : Int) (k1 : Int -> Op α) : Op α := f125_0g f174_0 α a b c d e g k1
def pa125_0 : PT (List DV) := pA [pV true [(dI .i64), (dI .i64), (dI .i64), (dI .i64), (dI .i64), (dI .i64)]]
def Fn125_0 (v : Tf125_0) (α : Type) (k : RT α) : I6 (Op α) := fun a b c d e g => v α a b c d e g (fun h => ur125_0_0 k h)
def cm125_0g : MCode := (.seq (.region r125_2 [] (tO [1])) (.seq (.region r125_4 [] (tO [2])) .ret))
def cm125_0 : MCode := cm125_0g
theorem gm125_0 : cm125_0.Good Pg E125_0 sh125 := ⟨trivial, ⟨trivial, trivial⟩⟩
theorem fm125_0g (a : Tf174_0) (α : Type) (k : RT α) : Fn125_0 (f125_0g a) α k = pa125_0.unc fun ds => fnM Pg (E125_0g a) sh125 (cm125_0g ) rs125 k ds := by kernel_rfl
theorem fm125_0 : ∀ (α : Type) (k : RT α), Fn125_0 f125_0 α k = pa125_0.unc fun ds => fnM Pg E125_0 sh125 cm125_0 rs125 k ds := fm125_0g f174_0
theorem is125 : FnIs Pg 125 nt125 tr125 tl125 cm125_0.erase rs125 := ⟨Tryz.f125, Tryz.func125, rfl, by kernel_rfl, by kernel_rfl, by kernel_rfl⟩
theorem io125_0 : InstOk Pg 125 nt125 ⟨pa125_0, Fn125_0 f125_0⟩ := inst_ok eo125_0 followsTry is125 ⟨⟨sh125, cm125_0, by kernel_rfl, gm125_0, fm125_0⟩⟩
abbrev nt223 : Nat := 19
def sh223 : SG := [(14, iT), (15, iT)]
def r223_2 : LA := [mK 4 0]
def r223_5 : LA := [oM 6 0, oO 7 (.len (.tmp 6)), mK 8 0]
def td223_7 : OT := (tO [0, 1, 7, 8])
def r223_9 : LA := [bT 9 .lss 8 7]
def r223_15 : LA := [oM 10 8, oM 5 10]
def r223_17 : LA := [oM 11 1, oM 12 0, oM 13 5, oO 14 (.iaddr 1 none (.tmp 12) (.tmp 13)), lD 15 14, oO 16 (.calld (.tmp 11) [(.tmp 15)])]
def r223_20 : LA := [oM 17 5, oM 4 17]
def r223_21 : LA := [bK 18 .add 8 1, oM 8 18]
def r223_23 : LA := [mK 4 (-1)]
def tr223 : TG := [tT 0 [0, 1], tT 1 [0, 1, 7, 8], tT 2 [0, 1, 7, 8, 9], tT 3 [0, 1, 5, 7, 8], tT 4 [0, 1, 5, 7, 8, 16], tT 5 [4], tT 6 [0, 1, 7, 8], tT 7 [4]]
def tl223 : TG := [tT 2 [0, 1, 7, 8]]
def rs223 : List AResV := [.tmp 4]
def p223_0_0 : PT St := pS [sl 0 (aV false [(cD dL)]), sl 1 (aV false [(cD (dFn 312 []))]), sI 7, sI 8] []
def u223_0_0 {β : Type} (g : St -> β) : Rows -> Int -> Int -> β := p223_0_0.unc g
def p223_0_1 : PT St := pS [sI 4] []
def u223_0_1 {β : Type} (g : St -> β) : Int -> β := p223_0_1.unc g
def p223_0_2 : PT St := pS [sl 0 (aV false [(cD dL)]), sl 1 (aV false [(cD (dFn 312 []))]), sI 7, sI 8, sl 9 (aV false [(cD dB)])] []
def u223_0_2 {β : Type} (g : St -> β) : Rows -> Int -> Int -> Bool -> β := p223_0_2.unc g
def pr223_0_0 : PT (List RV) := pRs [wI]
def ur223_0_0 {β : Type} (g : List RV -> β) : Int -> β := pr223_0_0.unc g
def E223_0g (a : Tf312_0) : EnvK := EnvK.of [⟨312, nt312, [⟨pa312_0, Fn312_0 a⟩]⟩] noSeq
def E223_0 : EnvK := E223_0g f312_0
theorem eo223_0 : E223_0.Ok Pg := EnvK.of_ok noSeq_ok ⟨⟨io312_0, trivial⟩, trivial⟩
def c223_0_7g : MCode := (.seq (.region r223_9 [] (tO [0, 1, 7, 8, 9])) (.seq (.cond (.tmp 9) .skip (.exit 0)) (.seq (.block 1 (.seq (.region r223_15 [] (tO [0, 1, 5, 7, 8])) (.seq (.region r223_17 [] (tO [0, 1, 5, 7, 8, 16])) (.cond (.tmp 16) (.seq (.region r223_20 [] (tO [4])) .ret) .skip)))) (.region r223_21 [] (tO [0, 1, 7, 8])))))
def c223_0_7 : MCode := c223_0_7g
theorem g223_0_7 : c223_0_7.Good Pg E223_0 sh223 := ⟨trivial, ⟨⟨trivial, trivial⟩, ⟨⟨trivial, ⟨trivial, ⟨⟨trivial, trivial⟩, trivial⟩⟩⟩, trivial⟩⟩⟩
def S223_0_0g (c : Tf312_0) (α : Type) (d : Rows) (b a : Int) (kn : Int -> Op α) (k1 : Int -> Op α) (k2 : Int -> Bool -> Op α) : Op α :=
 cK (decide (a < b))
 (rowK d a [.int .i64]
 (fun e => c α e
 (fun g => cK g
 (k1 a)
 (kn (w64 (a + 1))))))
 (k2 a (decide (a < b)))
def S223_0_0 (α : Type) (a : Rows) (b c : Int) (kn : Int -> Op α) (k1 : Int -> Op α) (k2 : Int -> Bool -> Op α) : Op α := S223_0_0g f312_0 α a b c kn k1 k2
def R223_0_0 (α : Type) (a : Rows) (b : Int) (k1 : Int -> Op α) (k2 : Int -> Bool -> Op α) : Nat -> Int -> Op α
 | 0, _ => none
 | n + 1, c => S223_0_0 α a b c (R223_0_0 α a b k1 k2 n) k1 k2
def L223_0_0 (α : Type) (a : Rows) (b : Int) (k1 : Int -> Op α) (k2 : Int -> Bool -> Op α) (c : Int) : Op α := R223_0_0 α a b k1 k2 fuel c
abbrev TL223_0_0 : Type 1 := (α : Type) -> Rows -> Int -> (Int -> Op α) -> (Int -> Bool -> Op α) -> Int -> Op α
def F223_0_0 (v : TL223_0_0) (α : Type) (K : KT α) : Rows -> Int -> Int -> Op α := fun b c d => v α b c (fun a => u223_0_1 (K .ret) a) (fun a e => u223_0_2 (K (.exit 0)) b c a e) d
theorem r223_0_0g (e : Tf312_0) (α : Type) (K : KT α) (Kn : SK α) (a : Rows) (b c : Int) : u223_0_0 (fun σ => runM Pg (E223_0g e) sh223 (c223_0_7g ) (thenK (fun σ => tidyK td223_7 σ Kn) K) σ) a b c = S223_0_0g e α a b c (fun c => u223_0_0 Kn a b c) (fun d => u223_0_1 (K .ret) d) (fun d g => u223_0_2 (K (.exit 0)) a b d g) := by kernel_rfl
theorem r223_0_0 (α : Type) (K : KT α) (Kn : SK α) (a : Rows) (b c : Int) : u223_0_0 (fun σ => runM Pg E223_0 sh223 c223_0_7 (thenK (fun σ => tidyK td223_7 σ Kn) K) σ) a b c = S223_0_0 α a b c (fun c => u223_0_0 Kn a b c) (fun d => u223_0_1 (K .ret) d) (fun d e => u223_0_2 (K (.exit 0)) a b d e) := r223_0_0g f312_0 α K Kn a b c
theorem t223_0_0 (α : Type) (K : KT α) : ∀ (n : Nat) (a : Rows) (b c : Int), R223_0_0 α a b (fun d => u223_0_1 (K .ret) d) (fun d e => u223_0_2 (K (.exit 0)) a b d e) n c = u223_0_0 (loopT (runM Pg E223_0 sh223 c223_0_7) td223_7 K n) a b c := by
 intro n
 induction n with
 | zero => intros; rfl
 | succ n ih => intro a b c; exact (congrArg (fun kn => S223_0_0 α a b c kn (fun d => u223_0_1 (K .ret) d) (fun d e => u223_0_2 (K (.exit 0)) a b d e)) (funext fun c => ih a b c)).trans (r223_0_0 α K (loopT (runM Pg E223_0 sh223 c223_0_7) td223_7 K n) a b c).symm
theorem m223_0_0 : ∀ (α : Type) (K : KT α), F223_0_0 L223_0_0 α K = p223_0_0.unc fun σ => loopT (runM Pg E223_0 sh223 c223_0_7) td223_7 K fuel σ := fun α K => by funext a b c; exact t223_0_0 α K fuel a b c
abbrev Tf223_0 : Type 1 := (α : Type) -> Rows -> (Int -> Op α) -> Op α
def f223_0g (b : TL223_0_0) (α : Type) (a : Rows) (k1 : Int -> Op α) : Op α :=
 b α a ((List.length a : Nat) : Int)
 (fun c => k1 c)
 (fun d e => k1 (-1)) 0
def f223_0 (α : Type) (a : Rows) (k1 : Int -> Op α) : Op α := f223_0g L223_0_0 α a k1
def pa223_0 : PT (List DV) := pA [pV false [dL], pV false [(dFn 312 [])]]
def Fn223_0 (v : Tf223_0) (α : Type) (k : RT α) : Rows -> Op α := fun a => v α a (fun b => ur223_0_0 k b)
def cm223_0g (a : TL223_0_0) : MCode := (.seq (.region r223_2 [] (tO [0, 1])) (.seq (.seq (.region r223_5 [] (tO [0, 1, 7, 8])) (.block 0 (.loop td223_7 [⟨p223_0_0, F223_0_0 a⟩] c223_0_7))) (.seq (.region r223_23 [] (tO [4])) .ret)))
def cm223_0 : MCode := cm223_0g L223_0_0
theorem gm223_0 : cm223_0.Good Pg E223_0 sh223 := ⟨trivial, ⟨⟨trivial, ⟨g223_0_7, m223_0_0, trivial⟩⟩, ⟨trivial, trivial⟩⟩⟩
theorem fm223_0g (b : Tf312_0) (a : TL223_0_0) (α : Type) (k : RT α) : Fn223_0 (f223_0g a) α k = pa223_0.unc fun ds => fnM Pg (E223_0g b) sh223 (cm223_0g a) rs223 k ds := by kernel_rfl
theorem fm223_0 : ∀ (α : Type) (k : RT α), Fn223_0 f223_0 α k = pa223_0.unc fun ds => fnM Pg E223_0 sh223 cm223_0 rs223 k ds := fm223_0g f312_0 L223_0_0
theorem is223 : FnIs Pg 223 nt223 tr223 tl223 cm223_0.erase rs223 := ⟨Tryz.f223, Tryz.func223, rfl, by kernel_rfl, by kernel_rfl, by kernel_rfl⟩
theorem io223_0 : InstOk Pg 223 nt223 ⟨pa223_0, Fn223_0 f223_0⟩ := inst_ok eo223_0 followsTry is223 ⟨⟨sh223, cm223_0, by kernel_rfl, gm223_0, fm223_0⟩⟩
abbrev nt115 : Nat := 9
def sh115 : SG := [(4, [.cpx .f64]), (6, [.cpx .f64])]
def r115_2 : LA := [oO 1 (.box (.tmp 0)), mK 2 0]
def r115_4 : LA := [fA 3 0 1, lD 4 3, fA 5 1 1, lD 6 5, oO 7 (.bslice 1 2 [(.v (.complex Go.FloatKind.f64 0 0))] [(0, (.tmp 4)), (1, (.tmp 6))]), oO 8 (.call 214 [(.const (.float Go.FloatKind.f64 4652007308841189376)), (.tmp 7)]), oM 2 8]
def tr115 : TG := [tT 0 [1], tT 1 [2]]
def tl115 : TG := []
def rs115 : List AResV := [.tmp 2]
def pr115_0_0 : PT (List RV) := pRs [wI]
def ur115_0_0 {β : Type} (g : List RV -> β) : Int -> β := pr115_0_0.unc g
def E115_0g (a : Tf214_0) : EnvK := EnvK.of [⟨214, nt214, [⟨pa214_0, Fn214_0 a⟩]⟩] noSeq
def E115_0 : EnvK := E115_0g f214_0
theorem eo115_0 : E115_0.Ok Pg := EnvK.of_ok noSeq_ok ⟨⟨io214_0, trivial⟩, trivial⟩
abbrev Tf115_0 : Type 1 := (α : Type) -> Nat -> Nat -> Nat -> Nat -> (Int -> Op α) -> Op α
def f115_0g (a : Tf214_0) (α : Type) (b c d e : Nat) (k1 : Int -> Op α) : Op α :=
 a α 4652007308841189376 [[DC.v (.complex .f64 b c)], [DC.v (.complex .f64 d e)]]
 (fun g => k1 g)
def f115_0 (α : Type) (a b c d : Nat) (k1 : Int -> Op α) : Op α := f115_0g f214_0 α a b c d k1
def pa115_0 : PT (List DV) := pA [pV true [(dX .f64), (dX .f64)]]
def Fn115_0 (v : Tf115_0) (α : Type) (k : RT α) : Nat -> Nat -> Nat -> Nat -> Op α := fun a b c d => v α a b c d (fun e => ur115_0_0 k e)
def cm115_0g : MCode := (.seq (.region r115_2 [] (tO [1])) (.seq (.region r115_4 [] (tO [2])) .ret))
def cm115_0 : MCode := cm115_0g
theorem gm115_0 : cm115_0.Good Pg E115_0 sh115 := ⟨trivial, ⟨trivial, trivial⟩⟩
theorem fm115_0g (a : Tf214_0) (α : Type) (k : RT α) : Fn115_0 (f115_0g a) α k = pa115_0.unc fun ds => fnM Pg (E115_0g a) sh115 (cm115_0g ) rs115 k ds := by kernel_rfl
theorem fm115_0 : ∀ (α : Type) (k : RT α), Fn115_0 f115_0 α k = pa115_0.unc fun ds => fnM Pg E115_0 sh115 cm115_0 rs115 k ds := fm115_0g f214_0
theorem is115 : FnIs Pg 115 nt115 tr115 tl115 cm115_0.erase rs115 := ⟨Tryz.f115, Tryz.func115, rfl, by kernel_rfl, by kernel_rfl, by kernel_rfl⟩
theorem io115_0 : InstOk Pg 115 nt115 ⟨pa115_0, Fn115_0 f115_0⟩ := inst_ok eo115_0 followsTry is115 ⟨⟨sh115, cm115_0, by kernel_rfl, gm115_0, fm115_0⟩⟩
abbrev nt43 : Nat := 23
def sh43 : SG := [(13, iS 2), (19, iS 2)]
def r43_2 : LA := [oO 0 (.mv (.const (.bool false)))]
def r43_4 : LA := [oO 4 (.bslice 1 4 [(.v (.float Go.FloatKind.f32 0))] [(0, (.const (.float Go.FloatKind.f32 1106247680))), (1, (.const (.float Go.FloatKind.f32 1101004800))), (2, (.const (.float Go.FloatKind.f32 1092616192))), (3, (.const (.float Go.FloatKind.f32 1101004800)))]), oO 5 (.build [.nils, (cI 0), (cI 0)] [(0, 1, (.tmp 4)), (1, 1, (kI 1)), (2, 1, (kI 65536))]), oO 6 (.call 70 [.tmp 5]), oM 3 6, oO 7 (.extract 0 (.tmp 3)), oO 8 (.extract 1 (.tmp 3)), oO 1 (.alloc (zI 6)), sD 6 1 7, oM 2 8]
def r43_6 : LA := [oM 9 2, oO 10 (.bin .eql 28 (.tmp 9) (kI 0)), oM 11 10, oG 12 (.faddr 0 (.tmp 1)) 11 true, oG 13 (.load true 2 (.tmp 12)) 11 true, oG 14 (.build [(cI 0), (cI 0)] [(0, 1, (kI 76)), (1, 1, (kI 84))]) 11 true, oG 15 (.bin .eql 23 (.tmp 13) (.tmp 14)) 11 true, oO 16 (.pick (.tmp 11) (.tmp 15) (.const (.bool false))), oM 17 16, oG 18 (.faddr 2 (.tmp 1)) 17 true, oG 19 (.load true 2 (.tmp 18)) 17 true, oG 20 (.build [(cI 0), (cI 0)] [(0, 1, (kI 18)), (1, 1, (kI 22))]) 17 true, oG 21 (.bin .eql 23 (.tmp 19) (.tmp 20)) 17 true, oO 22 (.pick (.tmp 17) (.tmp 21) (.const (.bool false))), oM 0 22]
def tr43 : TG := [tT 0 [], tT 1 [1, 2], tT 2 [0]]
def tl43 : TG := []
def rs43 : List AResV := [.tmp 0]
def pr43_0_0 : PT (List RV) := pRs [pR false [rD dB]]
def ur43_0_0 {β : Type} (g : List RV -> β) : Bool -> β := pr43_0_0.unc g
def E43_0g (a : Tf70_0) : EnvK := EnvK.of [⟨70, nt70, [⟨pa70_0, Fn70_0 a⟩]⟩] noSeq
def E43_0 : EnvK := E43_0g f70_0
theorem eo43_0 : E43_0.Ok Pg := EnvK.of_ok noSeq_ok ⟨⟨io70_0, trivial⟩, trivial⟩
abbrev Tf43_0 : Type 1 := (α : Type) -> (Bool -> Op α) -> Op α
def f43_0g (a : Tf70_0) (α : Type) (k1 : Bool -> Op α) : Op α :=
 a α [[DC.v (.float .f32 1106247680)], [DC.v (.float .f32 1101004800)], [DC.v (.float .f32 1092616192)], [DC.v (.float .f32 1101004800)]] 1 65536
 (fun b c d e h i g => cK (g == 0)
 (cK ((b == 76) && ((c == 84) && true))
 (k1 ((d == 18) && ((e == 22) && true)))
 (k1 false))
 (k1 false))
def f43_0 (α : Type) (k1 : Bool -> Op α) : Op α := f43_0g f70_0 α k1
def pa43_0 : PT (List DV) := pA []
def Fn43_0 (v : Tf43_0) (α : Type) (k : RT α) : Op α := v α (fun a => ur43_0_0 k a)
def cm43_0g : MCode := (.seq (.region r43_2 [] (tO [])) (.seq (.region r43_4 [] (tO [1, 2])) (.seq (.region r43_6 [] (tO [0])) .ret)))
def cm43_0 : MCode := cm43_0g
theorem gm43_0 : cm43_0.Good Pg E43_0 sh43 := ⟨trivial, ⟨trivial, ⟨trivial, trivial⟩⟩⟩
theorem fm43_0g (a : Tf70_0) (α : Type) (k : RT α) : Fn43_0 (f43_0g a) α k = pa43_0.unc fun ds => fnM Pg (E43_0g a) sh43 (cm43_0g ) rs43 k ds := by kernel_rfl
theorem fm43_0 : ∀ (α : Type) (k : RT α), Fn43_0 f43_0 α k = pa43_0.unc fun ds => fnM Pg E43_0 sh43 cm43_0 rs43 k ds := fm43_0g f70_0
theorem is43 : FnIs Pg 43 nt43 tr43 tl43 cm43_0.erase rs43 := ⟨Tryz.f43, Tryz.func43, rfl, by kernel_rfl, by kernel_rfl, by kernel_rfl⟩
theorem io43_0 : InstOk Pg 43 nt43 ⟨pa43_0, Fn43_0 f43_0⟩ := inst_ok eo43_0 followsTry is43 ⟨⟨sh43, cm43_0, by kernel_rfl, gm43_0, fm43_0⟩⟩
abbrev nt19 : Nat := 23
def sh19 : SG := [(16, [.str, .int .i64, .int .i64, .int .i64, .int .i64, .int .i64, .int .i64, .int .i64, .int .i64, .int .i64]), (22, [.str, .int .i64, .int .i64, .int .i64, .int .i64, .int .i64, .int .i64, .int .i64, .int .i64, .int .i64])]
def r19_2 : LA := [⟨(some 2), (.alloc [(.d (.v (.string ⟨#[]⟩))), (cI 0), (cI 0), (cI 0), (cI 0), (cI 0), (cI 0), (cI 0), (cI 0), (cI 0)]), none⟩, mK 3 0]
def r19_4 : LA := [oM 8 0, ⟨(some 9), (.call 62 [(.tmp 8), (.const (.string ⟨#[32]⟩))]), none⟩, oO 10 (.call 81 [(.tmp 9), (.const (.slice none 0 0))]), oM 7 10, oO 11 (.extract 0 (.tmp 7)), oO 12 (.extract 1 (.tmp 7)), ⟨(some 4), (.alloc [(.d (.v (.string ⟨#[]⟩))), (cI 0), (cI 0), (cI 0), (cI 0), (cI 0), (cI 0), (cI 0), (cI 0), (cI 0)]), none⟩, sD 10 4 11, oM 5 12]
def r19_7 : LA := [oM 13 5, oO 14 (.pure (oB (.unOp .not 4 (.tmp 13)) 4))]
def r19_10 : LA := [⟨(some 15), (.build [(.d (.v (.string ⟨#[]⟩))), (cI 0), (cI 0), (cI 0), (cI 0), (cI 0), (cI 0), (cI 0), (cI 0), (cI 0)] []), none⟩, sD 10 2 15, mK 3 4]
def r19_13 : LA := [lA 16 10 4, oO 17 (.call 82 [.tmp 16]), oM 6 17]
def r19_15 : LA := [oM 18 6, oO 19 (.bin .neq 28 (.tmp 18) (kI 0))]
def r19_18 : LA := [⟨(some 20), (.build [(.d (.v (.string ⟨#[]⟩))), (cI 0), (cI 0), (cI 0), (cI 0), (cI 0), (cI 0), (cI 0), (cI 0), (cI 0)] []), none⟩, oM 21 6, sD 10 2 20, oM 3 21]
def r19_20 : LA := [lA 22 10 4, sD 10 2 22, mK 3 0]
def tr19 : TG := [tT 0 [0, 2], tT 1 [2, 4, 5], tT 2 [2, 4, 14], tT 3 [2, 3], tT 4 [2, 4, 6], tT 5 [2, 4, 6, 19], tT 6 [2, 3], tT 7 [2, 3]]
def tl19 : TG := []
def rs19 : List AResV := [.cell 2 true 10, .tmp 3]
def pr19_0_0 : PT (List RV) := pRs [pR true [rD dS, rD (dI .i64), rD (dI .i64), rD (dI .i64), rD (dI .i64), rD (dI .i64), rD (dI .i64), rD (dI .i64), rD (dI .i64), rD (dI .i64)], wI]
def ur19_0_0 {β : Type} (g : List RV -> β) : BA -> I10 β := pr19_0_0.unc g
def E19_0g (a : Tf62_0) (b : Tf81_0) (c : Tf82_0) : EnvK := EnvK.of [⟨62, nt62, [⟨pa62_0, Fn62_0 a⟩]⟩, ⟨81, nt81, [⟨pa81_0, Fn81_0 b⟩]⟩, ⟨82, nt82, [⟨pa82_0, Fn82_0 c⟩]⟩] noSeq
def E19_0 : EnvK := E19_0g f62_0 f81_0 f82_0
theorem eo19_0 : E19_0.Ok Pg := EnvK.of_ok noSeq_ok ⟨⟨io62_0, trivial⟩, ⟨io81_0, trivial⟩, ⟨io82_0, trivial⟩, trivial⟩
abbrev Tf19_0 : Type 1 := (α : Type) -> BA -> (BA -> I10 (Op α)) -> Op α
def f19_0g (o : Tf62_0) (p : Tf81_0) (q : Tf82_0) (α : Type) (r : BA) (k1 : BA -> I10 (Op α)) : Op α :=
 o α r (⟨#[32]⟩ : BA)
 (fun s => p α s
 (fun a b c d e g h i j l t => cK (!t)
 (k1 (⟨#[]⟩ : BA) 0 0 0 0 0 0 0 0 0 4)
 (q α a b c d e g h i j l
 (fun m => cK (m != 0)
 (k1 (⟨#[]⟩ : BA) 0 0 0 0 0 0 0 0 0 m)
 (k1 a b c d e g h i j l 0)))))
def f19_0 (α : Type) (a : BA) (k1 : BA -> I10 (Op α)) : Op α := f19_0g f62_0 f81_0 f82_0 α a k1
def pa19_0 : PT (List DV) := pA [pV false [dS]]
def Fn19_0 (v : Tf19_0) (α : Type) (k : RT α) : BA -> Op α := fun a => v α a (fun b c d e g h i j l m o => ur19_0_0 k b c d e g h i j l m o)
def cm19_0g : MCode := (.seq (.region r19_2 [] (tO [0, 2])) (.seq (.region r19_4 [] (tO [2, 4, 5])) (.seq (.seq (.region r19_7 [] (tO [2, 4, 14])) (.cond (.tmp 14) (.seq (.region r19_10 [] (tO [2, 3])) .ret) .skip)) (.seq (.seq (.region r19_13 [] (tO [2, 4, 6])) (.seq (.region r19_15 [] (tO [2, 4, 6, 19])) (.cond (.tmp 19) (.seq (.region r19_18 [] (tO [2, 3])) .ret) .skip))) (.seq (.region r19_20 [] (tO [2, 3])) .ret)))))
def cm19_0 : MCode := cm19_0g
theorem gm19_0 : cm19_0.Good Pg E19_0 sh19 := ⟨trivial, ⟨trivial, ⟨⟨trivial, ⟨⟨trivial, trivial⟩, trivial⟩⟩, ⟨⟨trivial, ⟨trivial, ⟨⟨trivial, trivial⟩, trivial⟩⟩⟩, ⟨trivial, trivial⟩⟩⟩⟩⟩
theorem fm19_0g (a : Tf62_0) (b : Tf81_0) (c : Tf82_0) (α : Type) (k : RT α) : Fn19_0 (f19_0g a b c) α k = pa19_0.unc fun ds => fnM Pg (E19_0g a b c) sh19 (cm19_0g ) rs19 k ds := by kernel_rfl
theorem fm19_0 : ∀ (α : Type) (k : RT α), Fn19_0 f19_0 α k = pa19_0.unc fun ds => fnM Pg E19_0 sh19 cm19_0 rs19 k ds := fm19_0g f62_0 f81_0 f82_0
theorem is19 : FnIs Pg 19 nt19 tr19 tl19 cm19_0.erase rs19 := ⟨Tryz.f19, Tryz.func19, rfl, by kernel_rfl, by kernel_rfl, by kernel_rfl⟩
theorem io19_0 : InstOk Pg 19 nt19 ⟨pa19_0, Fn19_0 f19_0⟩ := inst_ok eo19_0 followsTry is19 ⟨⟨sh19, cm19_0, by kernel_rfl, gm19_0, fm19_0⟩⟩
abbrev nt50 : Nat := 23
def sh50 : SG := [(7, [.str, .int .i64, .int .i64, .int .i64, .int .i64, .int .i64, .int .i64, .int .i64, .int .i64, .int .i64]), (13, [.str, .int .i64, .int .i64, .int .i64, .int .i64, .int .i64, .int .i64, .int .i64, .int .i64, .int .i64])]
def r50_2 : LA := [oO 1 (.box (.tmp 0)), mK 2 0, mK 3 0]
def r50_5 : LA := [lA 7 10 1, oO 8 (.call 82 [.tmp 7]), oM 4 8]
def r50_7 : LA := [oM 9 4, oO 10 (.bin .neq 28 (.tmp 9) (kI 0))]
def r50_10 : LA := [oM 11 4, mK 2 0, oM 3 11]
def r50_13 : LA := [lA 13 10 1, oO 14 (.call 137 [.tmp 13]), oM 12 14, oO 15 (.extract 0 (.tmp 12)), oO 16 (.extract 1 (.tmp 12)), oM 5 15, oM 6 16]
def r50_16 : LA := [oM 18 5, bK 19 .gtr 18 1099511627776, oM 17 19]
def r50_19 : LA := [mK 2 0, mK 3 0]
def r50_21 : LA := [oM 21 6, bK 22 .leq 21 1099511627776, oM 20 22]
def r50_24 : LA := [mK 2 2, mK 3 0]
def r50_26 : LA := [mK 2 1, mK 3 0]
def tr50 : TG := [tT 0 [1], tT 1 [1, 4], tT 2 [1, 4, 10], tT 3 [2, 3], tT 4 [5, 6], tT 5 [6, 17], tT 6 [2, 3], tT 7 [20], tT 8 [2, 3], tT 9 [2, 3]]
def tl50 : TG := []
def rs50 : List AResV := [.tmp 2, .tmp 3]
def pr50_0_0 : PT (List RV) := pRs [wI, wI]
def ur50_0_0 {β : Type} (g : List RV -> β) : Int -> Int -> β := pr50_0_0.unc g
def E50_0g (a : Tf82_0) (b : Tf137_0) : EnvK := EnvK.of [⟨82, nt82, [⟨pa82_0, Fn82_0 a⟩]⟩, ⟨137, nt137, [⟨pa137_0, Fn137_0 b⟩]⟩] noSeq
def E50_0 : EnvK := E50_0g f82_0 f137_0
theorem eo50_0 : E50_0.Ok Pg := EnvK.of_ok noSeq_ok ⟨⟨io82_0, trivial⟩, ⟨io137_0, trivial⟩, trivial⟩
abbrev Tf50_0 : Type 1 := (α : Type) -> BA -> Int -> Int -> Int -> Int -> Int -> Int -> Int -> Int -> Int -> (Int -> Int -> Op α) -> Op α
def f50_0g (o : Tf137_0) (p : Tf82_0) (α : Type) (a : BA) (b c d e g h i j l : Int) (k1 : Int -> Int -> Op α) : Op α :=
 p α a b c d e g h i j l
 (fun m => cK (m != 0)
 (k1 0 m)
 (o α a b c d e g h i j l
 (fun q r => cK (decide (1099511627776 < q))
 (k1 0 0)
 (cK (decide (r <= 1099511627776))
 (k1 2 0)
 (k1 1 0)))))
def f50_0 (α : Type) (a : BA) (b c d e g h i j l : Int) (k1 : Int -> Int -> Op α) : Op α := f50_0g f137_0 f82_0 α a b c d e g h i j l k1
def pa50_0 : PT (List DV) := pA [pV true [dS, (dI .i64), (dI .i64), (dI .i64), (dI .i64), (dI .i64), (dI .i64), (dI .i64), (dI .i64), (dI .i64)]]
def Fn50_0 (v : Tf50_0) (α : Type) (k : RT α) : BA -> I9 (Op α) := fun a b c d e g h i j l => v α a b c d e g h i j l (fun m o => ur50_0_0 k m o)
def cm50_0g : MCode := (.seq (.region r50_2 [] (tO [1])) (.seq (.seq (.region r50_5 [] (tO [1, 4])) (.seq (.region r50_7 [] (tO [1, 4, 10])) (.cond (.tmp 10) (.seq (.region r50_10 [] (tO [2, 3])) .ret) .skip))) (.seq (.seq (.region r50_13 [] (tO [5, 6])) (.block 0 (.seq (.region r50_16 [] (tO [6, 17])) (.cond (.tmp 17) (.seq (.region r50_19 [] (tO [2, 3])) .ret) (.seq (.region r50_21 [] (tO [20])) (.cond (.tmp 20) (.seq (.region r50_24 [] (tO [2, 3])) .ret) .skip)))))) (.seq (.region r50_26 [] (tO [2, 3])) .ret))))
def cm50_0 : MCode := cm50_0g
theorem gm50_0 : cm50_0.Good Pg E50_0 sh50 := ⟨trivial, ⟨⟨trivial, ⟨trivial, ⟨⟨trivial, trivial⟩, trivial⟩⟩⟩, ⟨⟨trivial, ⟨trivial, ⟨⟨trivial, trivial⟩, ⟨trivial, ⟨⟨trivial, trivial⟩, trivial⟩⟩⟩⟩⟩, ⟨trivial, trivial⟩⟩⟩⟩
theorem fm50_0g (a : Tf82_0) (b : Tf137_0) (α : Type) (k : RT α) : Fn50_0 (f50_0g b a) α k = pa50_0.unc fun ds => fnM Pg (E50_0g a b) sh50 (cm50_0g ) rs50 k ds := by kernel_rfl
theorem fm50_0 : ∀ (α : Type) (k : RT α), Fn50_0 f50_0 α k = pa50_0.unc fun ds => fnM Pg E50_0 sh50 cm50_0 rs50 k ds := fm50_0g f82_0 f137_0
theorem is50 : FnIs Pg 50 nt50 tr50 tl50 cm50_0.erase rs50 := ⟨Tryz.f50, Tryz.func50, rfl, by kernel_rfl, by kernel_rfl, by kernel_rfl⟩
theorem io50_0 : InstOk Pg 50 nt50 ⟨pa50_0, Fn50_0 f50_0⟩ := inst_ok eo50_0 followsTry is50 ⟨⟨sh50, cm50_0, by kernel_rfl, gm50_0, fm50_0⟩⟩
abbrev nt49 : Nat := 23
def sh49 : SG := [(7, [.str, .int .i64, .int .i64, .int .i64, .int .i64, .int .i64, .int .i64, .int .i64, .int .i64, .int .i64]), (14, [.str, .int .i64, .int .i64, .int .i64, .int .i64, .int .i64, .int .i64, .int .i64, .int .i64, .int .i64])]
def r49_2 : LA := [oO 1 (.box (.tmp 0)), oO 2 (.alloc [(cI 0), (cI 0)]), mK 3 0]
def r49_5 : LA := [lA 7 10 1, oO 8 (.call 82 [.tmp 7]), oM 4 8]
def r49_7 : LA := [oM 9 4, oO 10 (.bin .neq 28 (.tmp 9) (kI 0))]
def r49_10 : LA := [oO 11 (.build [(cI 0), (cI 0)] []), oM 12 4, sD 2 2 11, oM 3 12]
def r49_12 : LA := [lA 14 10 1, oO 15 (.call 137 [.tmp 14]), oM 13 15, oO 16 (.extract 0 (.tmp 13)), oO 17 (.extract 1 (.tmp 13)), oM 5 16, oM 6 17]
def r49_14 : LA := [oM 18 5, oO 19 (.call 131 [(.tmp 18), (kI 1048576)]), oM 20 6, oO 21 (.call 132 [(.tmp 20), (kI 1048576)]), oO 22 (.build [(cI 0), (cI 0)] [(0, 1, (.tmp 19)), (1, 1, (.tmp 21))]), sD 2 2 22, mK 3 0]
def tr49 : TG := [tT 0 [1, 2], tT 1 [1, 2, 4], tT 2 [1, 2, 4, 10], tT 3 [2, 3], tT 4 [2, 5, 6], tT 5 [2, 3]]
def tl49 : TG := []
def rs49 : List AResV := [.cell 2 true 2, .tmp 3]
def pr49_0_0 : PT (List RV) := pRs [pR true [rD (dI .i64), rD (dI .i64)], wI]
def ur49_0_0 {β : Type} (g : List RV -> β) : Int -> Int -> Int -> β := pr49_0_0.unc g
def E49_0g (a : Tf82_0) (b : Tf137_0) (c : Tf131_0) (d : Tf132_0) : EnvK := EnvK.of [⟨82, nt82, [⟨pa82_0, Fn82_0 a⟩]⟩, ⟨137, nt137, [⟨pa137_0, Fn137_0 b⟩]⟩, ⟨131, nt131, [⟨pa131_0, Fn131_0 c⟩]⟩, ⟨132, nt132, [⟨pa132_0, Fn132_0 d⟩]⟩] noSeq
def E49_0 : EnvK := E49_0g f82_0 f137_0 f131_0 f132_0
theorem eo49_0 : E49_0.Ok Pg := EnvK.of_ok noSeq_ok ⟨⟨io82_0, trivial⟩, ⟨io137_0, trivial⟩, ⟨io131_0, trivial⟩, ⟨io132_0, trivial⟩, trivial⟩
abbrev Tf49_0 : Type 1 := (α : Type) -> BA -> Int -> Int -> Int -> Int -> Int -> Int -> Int -> Int -> Int -> (Int -> Int -> Int -> Op α) -> Op α
def f49_0g (o : Tf131_0) (p : Tf132_0) (q : Tf137_0) (r : Tf82_0) (α : Type) (a : BA) (b c d e g h i j l : Int) (k1 : Int -> Int -> Int -> Op α) : Op α :=
 r α a b c d e g h i j l
 (fun m => cK (m != 0)
 (k1 0 0 m)
 (q α a b c d e g h i j l
 (fun s t => o α s 1048576
 (fun w => p α t 1048576
 (fun z => k1 w z 0)))))
def f49_0 (α : Type) (a : BA) (b c d e g h i j l : Int) (k1 : Int -> Int -> Int -> Op α) : Op α := f49_0g f131_0 f132_0 f137_0 f82_0 α a b c d e g h i j l k1
def pa49_0 : PT (List DV) := pA [pV true [dS, (dI .i64), (dI .i64), (dI .i64), (dI .i64), (dI .i64), (dI .i64), (dI .i64), (dI .i64), (dI .i64)]]
def Fn49_0 (v : Tf49_0) (α : Type) (k : RT α) : BA -> I9 (Op α) := fun a b c d e g h i j l => v α a b c d e g h i j l (fun m o p => ur49_0_0 k m o p)
def cm49_0g : MCode := (.seq (.region r49_2 [] (tO [1, 2])) (.seq (.seq (.region r49_5 [] (tO [1, 2, 4])) (.seq (.region r49_7 [] (tO [1, 2, 4, 10])) (.cond (.tmp 10) (.seq (.region r49_10 [] (tO [2, 3])) .ret) .skip))) (.seq (.region r49_12 [] (tO [2, 5, 6])) (.seq (.region r49_14 [] (tO [2, 3])) .ret))))
def cm49_0 : MCode := cm49_0g
theorem gm49_0 : cm49_0.Good Pg E49_0 sh49 := ⟨trivial, ⟨⟨trivial, ⟨trivial, ⟨⟨trivial, trivial⟩, trivial⟩⟩⟩, ⟨trivial, ⟨trivial, trivial⟩⟩⟩⟩
theorem fm49_0g (a : Tf82_0) (b : Tf137_0) (c : Tf131_0) (d : Tf132_0) (α : Type) (k : RT α) : Fn49_0 (f49_0g c d b a) α k = pa49_0.unc fun ds => fnM Pg (E49_0g a b c d) sh49 (cm49_0g ) rs49 k ds := by kernel_rfl
theorem fm49_0 : ∀ (α : Type) (k : RT α), Fn49_0 f49_0 α k = pa49_0.unc fun ds => fnM Pg E49_0 sh49 cm49_0 rs49 k ds := fm49_0g f82_0 f137_0 f131_0 f132_0
theorem is49 : FnIs Pg 49 nt49 tr49 tl49 cm49_0.erase rs49 := ⟨Tryz.f49, Tryz.func49, rfl, by kernel_rfl, by kernel_rfl, by kernel_rfl⟩
theorem io49_0 : InstOk Pg 49 nt49 ⟨pa49_0, Fn49_0 f49_0⟩ := inst_ok eo49_0 followsTry is49 ⟨⟨sh49, cm49_0, by kernel_rfl, gm49_0, fm49_0⟩⟩
abbrev nt127 : Nat := 74
def sh127 : SG := [(11, iS 6), (19, iT), (23, iS 2), (25, iS 2), (33, iT), (36, iT), (38, iT), (42, iT), (44, iT), (48, iT), (52, iT), (58, iT), (73, iS 4)]
def r127_2 : LA := [oO 1 (.box (.tmp 0)), oO 2 (.alloc (zI 4)), mK 3 0]
def r127_5 : LA := [lA 11 6 1, oO 12 (.call 125 [.tmp 11]), oM 4 12]
def r127_7 : LA := [oM 13 4, oO 14 (.bin .neq 28 (.tmp 13) (kI 0))]
def r127_10 : LA := [oO 15 (.build (zI 4) []), oM 16 4, sD 4 2 15, oM 3 16]
def r127_13 : LA := [fA 17 0 1, fA 18 0 17, lD 19 18, bK 20 .leq 19 0]
def r127_16 : LA := [oO 21 (.build (zI 4) []), sD 4 2 21, mK 3 9]
def r127_18 : LA := [oO 5 (.alloc (zI 4))]
def r127_21 : LA := [fA 22 2 1, lA 23 2 22, fA 24 4 1, lA 25 2 24, oO 26 (.build (zI 4) [(0, 2, (.tmp 23)), (2, 2, (.tmp 25))]), mK 27 0]
def td127_23 : OT := (tO [1, 2, 5, 26, 27])
def r127_25 : LA := [bK 28 .lss 27 2]
def r127_31 : LA := [oM 29 27, oO 30 (.index true 2 2 (.tmp 26) (.tmp 27)), oO 7 (.alloc [(cI 0), (cI 0)]), oM 6 29, sD 2 7 30]
def r127_33 : LA := [fA 31 0 1, fA 32 1 31, lD 33 32, fA 34 0 1, fA 35 0 34, lD 36 35, oM 8 33, oM 9 36]
def r127_36 : LA := [fA 37 0 7, lD 38 37, bK 39 .lss 38 0]
def r127_38 : LA := [fA 40 0 1, fA 41 0 40, lD 42 41, oM 8 42]
def r127_41 : LA := [fA 43 1 7, lD 44 43, bK 45 .lss 44 0]
def r127_43 : LA := [fA 46 0 1, fA 47 1 46, lD 48 47, oM 9 48]
def r127_45 : LA := [mK 10 0]
def r127_47 : LA := [oM 50 6, fA 51 0 7, lD 52 51, oO 53 (.bin .mul 3 (kI 2) (.tmp 52)), bK 54 .mul 53 1048576, oM 55 8, oO 56 (.call 131 [(.tmp 54), (.tmp 55)]), fA 57 1 7, lD 58 57, oO 59 (.bin .mul 3 (kI 2) (.tmp 58)), bK 60 .mul 59 1048576, oM 61 9, oO 62 (.call 132 [(.tmp 60), (.tmp 61)]), oO 63 (.build [(cI 0), (cI 0)] [(0, 1, (.tmp 56)), (1, 1, (.tmp 62))]), oO 64 (.call 134 [.tmp 63]), oM 49 64, oO 65 (.extract 0 (.tmp 49)), oO 66 (.extract 1 (.tmp 49)), oO 67 (.iaddr 2 (some 2) (.tmp 5) (.tmp 50)), sD 2 67 65, oM 10 66]
def r127_49 : LA := [oM 68 10, oO 69 (.bin .neq 28 (.tmp 68) (kI 0))]
def r127_52 : LA := [oO 70 (.build (zI 4) []), oM 71 10, sD 4 2 70, oM 3 71]
def r127_53 : LA := [bK 72 .add 27 1, oM 27 72]
def r127_55 : LA := [lA 73 4 5, sD 4 2 73, mK 3 0]
def tr127 : TG := [tT 0 [1, 2], tT 1 [1, 2, 4], tT 2 [1, 2, 4, 14], tT 3 [2, 3], tT 4 [1, 2, 20], tT 5 [2, 3], tT 6 [1, 2, 5], tT 7 [1, 2, 5, 26, 27], tT 8 [1, 2, 5, 26, 27, 28], tT 9 [1, 2, 5, 6, 7, 26, 27], tT 10 [1, 2, 5, 6, 7, 8, 9, 26, 27], tT 11 [1, 2, 5, 6, 7, 8, 9, 26, 27, 39], tT 12 [1, 2, 5, 6, 7, 8, 9, 26, 27], tT 13 [1, 2, 5, 6, 7, 8, 9, 26, 27, 45], tT 14 [1, 2, 5, 6, 7, 8, 9, 26, 27], tT 15 [1, 2, 5, 6, 7, 8, 9, 26, 27], tT 16 [1, 2, 5, 10, 26, 27], tT 17 [1, 2, 5, 10, 26, 27, 69], tT 18 [2, 3], tT 19 [1, 2, 5, 26, 27], tT 20 [2, 3]]
def tl127 : TG := [tT 8 [1, 2, 5, 26, 27]]
def rs127 : List AResV := [.cell 2 true 4, .tmp 3]
def p127_0_0 : PT St := pS [sP 1, sP 2, sP 5, sl 26 (aV true (xs 4)), sI 27, sl 28 (aV false [(cD dB)])] [eBox 1 (xs 6), eBox 2 (xs 4), eBox 5 (xs 4)]
def u127_0_0 {β : Type} (g : St -> β) : Int -> Int -> Int -> Int -> Int -> Bool -> I14 β := p127_0_0.unc g
def p127_0_1 : PT St := pS [sP 1, sP 2, sP 5, sI 6, sP 7, sl 26 (aV true (xs 4)), sI 27] [eBox 1 (xs 6), eBox 2 (xs 4), eBox 5 (xs 4), eBox 7 [xI, xI]]
def u127_0_1 {β : Type} (g : St -> β) : I22 β := p127_0_1.unc g
def p127_0_2 : PT St := pS [sP 1, sP 2, sP 5, sI 6, sP 7, sI 8, sI 9, sl 26 (aV true (xs 4)), sI 27] [eBox 1 (xs 6), eBox 2 (xs 4), eBox 5 (xs 4), eBox 7 [xI, xI]]
def u127_0_2 {β : Type} (g : St -> β) : I24 β := p127_0_2.unc g
def p127_0_3 : PT St := pS [sP 1, sP 2, sP 5, sI 6, sP 7, sI 8, sI 9, sl 26 (aV true (xs 4)), sI 27, sl 39 (aV false [(cD dB)])] [eBox 1 (xs 6), eBox 2 (xs 4), eBox 5 (xs 4), eBox 7 [xI, xI]]
def u127_0_3 {β : Type} (g : St -> β) : Int -> Int -> Int -> Int -> Int -> Int -> Int -> Int -> Bool -> I16 β := p127_0_3.unc g
def p127_0_4 : PT St := pS [sP 1, sP 2, sP 5, sI 6, sP 7, sI 8, sI 9, sl 26 (aV true (xs 4)), sI 27, sl 45 (aV false [(cD dB)])] [eBox 1 (xs 6), eBox 2 (xs 4), eBox 5 (xs 4), eBox 7 [xI, xI]]
def u127_0_4 {β : Type} (g : St -> β) : Int -> Int -> Int -> Int -> Int -> Int -> Int -> Int -> Bool -> I16 β := p127_0_4.unc g
def p127_0_5 : PT St := pS [sP 1, sP 2, sP 5, sI 10, sl 26 (aV true (xs 4)), sI 27] [eBox 1 (xs 6), eBox 2 (xs 4), eBox 5 (xs 4)]
def u127_0_5 {β : Type} (g : St -> β) : I20 β := p127_0_5.unc g
def p127_0_6 : PT St := pS [sP 1, sP 2, sP 5, sl 26 (aV true (xs 4)), sI 27] [eBox 1 (xs 6), eBox 2 (xs 4), eBox 5 (xs 4)]
def u127_0_6 {β : Type} (g : St -> β) : I19 β := p127_0_6.unc g
def p127_0_7 : PT St := pS [sP 2, sI 3] [eBox 2 (xs 4)]
def u127_0_7 {β : Type} (g : St -> β) : I5 β := p127_0_7.unc g
def pr127_0_0 : PT (List RV) := pRs [pR true [rD (dI .i64), rD (dI .i64), rD (dI .i64), rD (dI .i64)], wI]
def ur127_0_0 {β : Type} (g : List RV -> β) : I5 β := pr127_0_0.unc g
def E127_0g (a : Tf125_0) (b : Tf131_0) (c : Tf132_0) (d : Tf134_0) : EnvK := EnvK.of [⟨125, nt125, [⟨pa125_0, Fn125_0 a⟩]⟩, ⟨131, nt131, [⟨pa131_0, Fn131_0 b⟩]⟩, ⟨132, nt132, [⟨pa132_0, Fn132_0 c⟩]⟩, ⟨134, nt134, [⟨pa134_0, Fn134_0 d⟩]⟩] noSeq
def E127_0 : EnvK := E127_0g f125_0 f131_0 f132_0 f134_0
theorem eo127_0 : E127_0.Ok Pg := EnvK.of_ok noSeq_ok ⟨⟨io125_0, trivial⟩, ⟨io131_0, trivial⟩, ⟨io132_0, trivial⟩, ⟨io134_0, trivial⟩, trivial⟩
def c127_0_46g : MCode := (.region r127_47 [(6, 8)] (tO [1, 2, 5, 10, 26, 27]))
def c127_0_46 : MCode := c127_0_46g
theorem g127_0_46 : c127_0_46.Good Pg E127_0 sh127 := trivial
abbrev TJ127_0_3 : Type 1 := (α : Type) -> Int -> Int -> Int -> Int -> Int -> Int -> Int -> Int -> Int -> (I5 (Op α)) -> Op α
def J127_0_3g (e : Tf131_0) (g : Tf132_0) (h : Tf134_0) (α : Type) (a i j l m o p q r : Int) (k1 : I5 (Op α)) : Op α :=
 e α (w64 ((w64 (2 * q)) * 1048576)) i
 (fun s => g α (w64 ((w64 (2 * r)) * 1048576)) j
 (fun t => h α s t
 (fun b c d => cK (a == 1)
 (k1 d l m b c)
 (cK (a == 0)
 (k1 d b c o p)
 (none)))))
def J127_0_3 (α : Type) (a b c d e g h i j : Int) (k1 : I5 (Op α)) : Op α := J127_0_3g f131_0 f132_0 f134_0 α a b c d e g h i j k1
def F127_0_3 (v : TJ127_0_3) (α : Type) (K : KT α) : I24 (Op α) := fun a b c d e g h i j l m o p q r s t w z A B C D F => v α a b c z A B C D F (fun G H I J L => u127_0_5 (K .normal) G d e g h i j l m o p q r s t w H I J L)
theorem m127_0_3g (d : Tf125_0) (a : Tf131_0) (b : Tf132_0) (c : Tf134_0) (α : Type) (K : KT α) : F127_0_3 (J127_0_3g a b c) α K = p127_0_2.unc fun σ => runM Pg (E127_0g d a b c) sh127 (c127_0_46g ) K σ := by kernel_rfl
theorem m127_0_3 : ∀ (α : Type) (K : KT α), F127_0_3 J127_0_3 α K = p127_0_2.unc fun σ => runM Pg E127_0 sh127 c127_0_46 K σ := m127_0_3g f125_0 f131_0 f132_0 f134_0
def c127_0_39g : MCode := (.seq (.region r127_41 [] (tO [1, 2, 5, 6, 7, 8, 9, 26, 27, 45])) (.cond (.tmp 45) (.region r127_43 [] (tO [1, 2, 5, 6, 7, 8, 9, 26, 27])) .skip))
def c127_0_39 : MCode := c127_0_39g
theorem g127_0_39 : c127_0_39.Good Pg E127_0 sh127 := ⟨trivial, ⟨trivial, trivial⟩⟩
abbrev TJ127_0_2 : Type 1 := (α : Type) -> Int -> (Op α) -> (Bool -> Op α) -> Op α
def J127_0_2g (α : Type) (a : Int) (k1 : Op α) (k2 : Bool -> Op α) : Op α :=
 cK (decide (a < 0))
 (k1)
 (k2 (decide (a < 0)))
def J127_0_2 (α : Type) (a : Int) (k1 : Op α) (k2 : Bool -> Op α) : Op α := J127_0_2g α a k1 k2
def F127_0_2 (v : TJ127_0_2) (α : Type) (K : KT α) : I24 (Op α) := fun c d F e g h i j l a m o p q r s t w z A B C D b => v α b (u127_0_2 (K .normal) c d a e g h i j l a m o p q r s t w z A B C D b) (fun G => u127_0_4 (K .normal) c d F e g h i j G l a m o p q r s t w z A B C D b)
theorem m127_0_2g (a : Tf125_0) (b : Tf131_0) (c : Tf132_0) (d : Tf134_0) (α : Type) (K : KT α) : F127_0_2 (J127_0_2g ) α K = p127_0_2.unc fun σ => runM Pg (E127_0g a b c d) sh127 (c127_0_39g ) K σ := by kernel_rfl
theorem m127_0_2 : ∀ (α : Type) (K : KT α), F127_0_2 J127_0_2 α K = p127_0_2.unc fun σ => runM Pg E127_0 sh127 c127_0_39 K σ := m127_0_2g f125_0 f131_0 f132_0 f134_0
abbrev TJ127_0_4 : Type 1 := (α : Type) -> Int -> (Op α) -> (Bool -> Op α) -> Op α
def J127_0_4g (α : Type) (a : Int) (k1 : Op α) (k2 : Bool -> Op α) : Op α :=
 cK (decide (a < 0))
 (k1)
 (k2 (decide (a < 0)))
def J127_0_4 (α : Type) (a : Int) (k1 : Op α) (k2 : Bool -> Op α) : Op α := J127_0_4g α a k1 k2
def F127_0_4 (v : TJ127_0_4) (α : Type) (K : KT α) : Int -> Int -> Int -> Int -> Int -> Int -> Int -> Int -> Bool -> I16 (Op α) := fun c d F e g h i j H l a m o p q r s t w z A B C D b => v α b (u127_0_2 (K .normal) c d a e g h i j l a m o p q r s t w z A B C D b) (fun G => u127_0_4 (K .normal) c d F e g h i j G l a m o p q r s t w z A B C D b)
theorem m127_0_4g (a : Tf125_0) (b : Tf131_0) (c : Tf132_0) (d : Tf134_0) (α : Type) (K : KT α) : F127_0_4 (J127_0_4g ) α K = p127_0_3.unc fun σ => runM Pg (E127_0g a b c d) sh127 (c127_0_39g ) K σ := by kernel_rfl
theorem m127_0_4 : ∀ (α : Type) (K : KT α), F127_0_4 J127_0_4 α K = p127_0_3.unc fun σ => runM Pg E127_0 sh127 c127_0_39 K σ := m127_0_4g f125_0 f131_0 f132_0 f134_0
def c127_0_34g : MCode := (.seq (.region r127_36 [] (tO [1, 2, 5, 6, 7, 8, 9, 26, 27, 39])) (.cond (.tmp 39) (.region r127_38 [] (tO [1, 2, 5, 6, 7, 8, 9, 26, 27])) .skip))
def c127_0_34 : MCode := c127_0_34g
theorem g127_0_34 : c127_0_34.Good Pg E127_0 sh127 := ⟨trivial, ⟨trivial, trivial⟩⟩
abbrev TJ127_0_1 : Type 1 := (α : Type) -> Int -> (Op α) -> (Bool -> Op α) -> Op α
def J127_0_1g (α : Type) (a : Int) (k1 : Op α) (k2 : Bool -> Op α) : Op α :=
 cK (decide (a < 0))
 (k1)
 (k2 (decide (a < 0)))
def J127_0_1 (α : Type) (a : Int) (k1 : Op α) (k2 : Bool -> Op α) : Op α := J127_0_1g α a k1 k2
def F127_0_1 (v : TJ127_0_1) (α : Type) (K : KT α) : I24 (Op α) := fun c F d e g h i j a l m o p q r s t w z A B C b D => v α b (u127_0_2 (K .normal) c a d e g h i j a l m o p q r s t w z A B C b D) (fun G => u127_0_3 (K .normal) c F d e g h i j G a l m o p q r s t w z A B C b D)
theorem m127_0_1g (a : Tf125_0) (b : Tf131_0) (c : Tf132_0) (d : Tf134_0) (α : Type) (K : KT α) : F127_0_1 (J127_0_1g ) α K = p127_0_2.unc fun σ => runM Pg (E127_0g a b c d) sh127 (c127_0_34g ) K σ := by kernel_rfl
theorem m127_0_1 : ∀ (α : Type) (K : KT α), F127_0_1 J127_0_1 α K = p127_0_2.unc fun σ => runM Pg E127_0 sh127 c127_0_34 K σ := m127_0_1g f125_0 f131_0 f132_0 f134_0
def c127_0_30g : MCode := (.region r127_31 [] (tO [1, 2, 5, 6, 7, 26, 27]))
def c127_0_30 : MCode := c127_0_30g
theorem g127_0_30 : c127_0_30.Good Pg E127_0 sh127 := trivial
abbrev TJ127_0_0 : Type 1 := (α : Type) -> Int -> Int -> Int -> Int -> Int -> (Int -> Int -> Op α) -> Op α
def J127_0_0g (α : Type) (b c d e a : Int) (k1 : Int -> Int -> Op α) : Op α :=
 cK (a == 1)
 (k1 d e)
 (cK (a == 0)
 (k1 b c)
 (none))
def J127_0_0 (α : Type) (a b c d e : Int) (k1 : Int -> Int -> Op α) : Op α := J127_0_0g α a b c d e k1
def F127_0_0 (v : TJ127_0_0) (α : Type) (K : KT α) : Int -> Int -> Int -> Int -> Int -> Bool -> I14 (Op α) := fun b c d e a C g h i j l m o p q r s t w z => v α b c d e a (fun A B => u127_0_1 (K .normal) a b c d e a g h i j l m o p q r s t w z A B)
theorem m127_0_0g (a : Tf125_0) (b : Tf131_0) (c : Tf132_0) (d : Tf134_0) (α : Type) (K : KT α) : F127_0_0 (J127_0_0g ) α K = p127_0_0.unc fun σ => runM Pg (E127_0g a b c d) sh127 (c127_0_30g ) K σ := by kernel_rfl
theorem m127_0_0 : ∀ (α : Type) (K : KT α), F127_0_0 J127_0_0 α K = p127_0_0.unc fun σ => runM Pg E127_0 sh127 c127_0_30 K σ := m127_0_0g f125_0 f131_0 f132_0 f134_0
def c127_0_23g (a : TJ127_0_0) (b : TJ127_0_1) (c : TJ127_0_2) (d : TJ127_0_4) (e : TJ127_0_3) : MCode := (.seq (.region r127_25 [] (tO [1, 2, 5, 26, 27, 28])) (.seq (.cond (.tmp 28) .skip (.exit 0)) (.seq (.block 1 (.seq (.mark [⟨p127_0_0, F127_0_0 a⟩] c127_0_30) (.seq (.region r127_33 [] (tO [1, 2, 5, 6, 7, 8, 9, 26, 27])) (.seq (.mark [⟨p127_0_2, F127_0_1 b⟩] c127_0_34) (.seq (.mark [⟨p127_0_2, F127_0_2 c⟩, ⟨p127_0_3, F127_0_4 d⟩] c127_0_39) (.seq (.region r127_45 [] (tO [1, 2, 5, 6, 7, 8, 9, 26, 27])) (.seq (.mark [⟨p127_0_2, F127_0_3 e⟩] c127_0_46) (.seq (.region r127_49 [] (tO [1, 2, 5, 10, 26, 27, 69])) (.cond (.tmp 69) (.seq (.region r127_52 [] (tO [2, 3])) .ret) .skip))))))))) (.region r127_53 [] (tO [1, 2, 5, 26, 27])))))
def c127_0_23 : MCode := c127_0_23g J127_0_0 J127_0_1 J127_0_2 J127_0_4 J127_0_3
theorem g127_0_23 : c127_0_23.Good Pg E127_0 sh127 := ⟨trivial, ⟨⟨trivial, trivial⟩, ⟨⟨⟨g127_0_30, m127_0_0, trivial⟩, ⟨trivial, ⟨⟨g127_0_34, m127_0_1, trivial⟩, ⟨⟨g127_0_39, m127_0_2, m127_0_4, trivial⟩, ⟨trivial, ⟨⟨g127_0_46, m127_0_3, trivial⟩, ⟨trivial, ⟨⟨trivial, trivial⟩, trivial⟩⟩⟩⟩⟩⟩⟩⟩, trivial⟩⟩⟩
def S127_0_5g (r : TJ127_0_0) (s : TJ127_0_1) (t : TJ127_0_2) (i : TJ127_0_3) (w : TJ127_0_4) (α : Type) (z A B C j l a c d e g : Int) (kn : I5 (Op α)) (k1 : Int -> Op α) (k2 : Int -> Bool -> I4 (Op α)) : Op α :=
 cK (decide (a < 2))
 (r α z A B C a
 (fun h b => s α h
 (t α b
 (i α a j l c d e g h b
 (fun m D F G H => cK (m != 0)
 (k1 m)
 (kn (w64 (a + 1)) D F G H)))
 (fun W => i α a j j c d e g h b
 (fun o I J L M => cK (o != 0)
 (k1 o)
 (kn (w64 (a + 1)) I J L M))))
 (fun X => w α b
 (i α a l l c d e g h b
 (fun p N O P Q => cK (p != 0)
 (k1 p)
 (kn (w64 (a + 1)) N O P Q)))
 (fun Y => i α a l j c d e g h b
 (fun q R T U V => cK (q != 0)
 (k1 q)
 (kn (w64 (a + 1)) R T U V))))))
 (k2 a (decide (a < 2)) c d e g)
def S127_0_5 (α : Type) (a b c d e g h i j l m : Int) (kn : I5 (Op α)) (k1 : Int -> Op α) (k2 : Int -> Bool -> I4 (Op α)) : Op α := S127_0_5g J127_0_0 J127_0_1 J127_0_2 J127_0_3 J127_0_4 α a b c d e g h i j l m kn k1 k2
def R127_0_5 (α : Type) (a b c d e g : Int) (k1 : Int -> Op α) (k2 : Int -> Bool -> I4 (Op α)) : Nat -> I5 (Op α)
 | 0, _, _, _, _, _ => none
 | n + 1, h, i, j, l, m => S127_0_5 α a b c d e g h i j l m (R127_0_5 α a b c d e g k1 k2 n) k1 k2
def L127_0_5 (α : Type) (a b c d e g : Int) (k1 : Int -> Op α) (k2 : Int -> Bool -> I4 (Op α)) (h i j l m : Int) : Op α := R127_0_5 α a b c d e g k1 k2 fuel h i j l m
abbrev TL127_0_5 : Type 1 := (α : Type) -> Int -> Int -> Int -> Int -> Int -> Int -> (Int -> Op α) -> (Int -> Bool -> I4 (Op α)) -> I5 (Op α)
def F127_0_5 (v : TL127_0_5) (α : Type) (K : KT α) : I19 (Op α) := fun b c d e i g h j l m o p q r s t w z A => v α b c d e g h (fun a => u127_0_7 (K .ret) a 0 0 0 0) (fun a B C D F G => u127_0_0 (K (.exit 0)) b c d e a B g h j l m o p q r s C D F G) i t w z A
theorem r127_0_5g (H : Tf125_0) (I : Tf131_0) (J : Tf132_0) (L : Tf134_0) (B : TJ127_0_0) (C : TJ127_0_1) (D : TJ127_0_2) (F : TJ127_0_4) (G : TJ127_0_3) (α : Type) (K : KT α) (Kn : SK α) (a b c d e g h o p q r s t w z i j l m : Int) : u127_0_6 (fun σ => runM Pg (E127_0g H I J L) sh127 (c127_0_23g B C D F G) (thenK (fun σ => tidyK td127_23 σ Kn) K) σ) a b c d e g h o p q r s t w z i j l m = S127_0_5g B C D G F α a b c d g h e i j l m (fun e i j l m => u127_0_6 Kn a b c d e g h o p q r s t w z i j l m) (fun A => u127_0_7 (K .ret) A 0 0 0 0) (fun A M N O P Q => u127_0_0 (K (.exit 0)) a b c d A M g h o p q r s t w z N O P Q) := by kernel_rfl
theorem r127_0_5 (α : Type) (K : KT α) (Kn : SK α) (a b c d e g h o p q r s t w z i j l m : Int) : u127_0_6 (fun σ => runM Pg E127_0 sh127 c127_0_23 (thenK (fun σ => tidyK td127_23 σ Kn) K) σ) a b c d e g h o p q r s t w z i j l m = S127_0_5 α a b c d g h e i j l m (fun e i j l m => u127_0_6 Kn a b c d e g h o p q r s t w z i j l m) (fun A => u127_0_7 (K .ret) A 0 0 0 0) (fun A B C D F G => u127_0_0 (K (.exit 0)) a b c d A B g h o p q r s t w z C D F G) := r127_0_5g f125_0 f131_0 f132_0 f134_0 J127_0_0 J127_0_1 J127_0_2 J127_0_4 J127_0_3 α K Kn a b c d e g h o p q r s t w z i j l m
theorem t127_0_5 (α : Type) (K : KT α) : ∀ (n : Nat) (a b c d h e g p q r s t w z A i j l m : Int), R127_0_5 α a b c d e g (fun o => u127_0_7 (K .ret) o 0 0 0 0) (fun o B C D F G => u127_0_0 (K (.exit 0)) a b c d o B e g p q r s t w z A C D F G) n h i j l m = u127_0_6 (loopT (runM Pg E127_0 sh127 c127_0_23) td127_23 K n) a b c d h e g p q r s t w z A i j l m := by
 intro n
 induction n with
 | zero => intros; rfl
 | succ n ih => intro a b c d h e g p q r s t w z A i j l m; exact (congrArg (fun kn => S127_0_5 α a b c d e g h i j l m kn (fun o => u127_0_7 (K .ret) o 0 0 0 0) (fun o B C D F G => u127_0_0 (K (.exit 0)) a b c d o B e g p q r s t w z A C D F G)) (funext fun h => funext fun i => funext fun j => funext fun l => funext fun m => ih a b c d h e g p q r s t w z A i j l m)).trans (r127_0_5 α K (loopT (runM Pg E127_0 sh127 c127_0_23) td127_23 K n) a b c d h e g p q r s t w z A i j l m).symm
theorem m127_0_5 : ∀ (α : Type) (K : KT α), F127_0_5 L127_0_5 α K = p127_0_6.unc fun σ => loopT (runM Pg E127_0 sh127 c127_0_23) td127_23 K fuel σ := fun α K => by funext a b c d e g h i j l m o p q r s t w z; exact t127_0_5 α K fuel a b c d e g h i j l m o p q r s t w z
abbrev Tf127_0 : Type 1 := (α : Type) -> Int -> Int -> Int -> Int -> Int -> Int -> (I5 (Op α)) -> Op α
def f127_0g (i : TL127_0_5) (j : Tf125_0) (α : Type) (a b c d e g : Int) (k1 : I5 (Op α)) : Op α :=
 j α a b c d e g
 (fun h => cK (h != 0)
 (k1 0 0 0 0 h)
 (cK (decide (a <= 0))
 (k1 0 0 0 0 9)
 (i α c d e g a b
 (fun l => k1 0 0 0 0 l)
 (fun r s m o p q => k1 m o p q 0) 0 0 0 0 0)))
def f127_0 (α : Type) (a b c d e g : Int) (k1 : I5 (Op α)) : Op α := f127_0g L127_0_5 f125_0 α a b c d e g k1
def pa127_0 : PT (List DV) := pA [pV true [(dI .i64), (dI .i64), (dI .i64), (dI .i64), (dI .i64), (dI .i64)]]
def Fn127_0 (v : Tf127_0) (α : Type) (k : RT α) : I6 (Op α) := fun a b c d e g => v α a b c d e g (fun h i j l m => ur127_0_0 k h i j l m)
def cm127_0g (a : TL127_0_5) : MCode := (.seq (.region r127_2 [] (tO [1, 2])) (.seq (.seq (.region r127_5 [] (tO [1, 2, 4])) (.seq (.region r127_7 [] (tO [1, 2, 4, 14])) (.cond (.tmp 14) (.seq (.region r127_10 [] (tO [2, 3])) .ret) .skip))) (.seq (.seq (.region r127_13 [] (tO [1, 2, 20])) (.cond (.tmp 20) (.seq (.region r127_16 [] (tO [2, 3])) .ret) .skip)) (.seq (.region r127_18 [] (tO [1, 2, 5])) (.seq (.seq (.region r127_21 [] (tO [1, 2, 5, 26, 27])) (.block 0 (.loop td127_23 [⟨p127_0_6, F127_0_5 a⟩] c127_0_23))) (.seq (.region r127_55 [] (tO [2, 3])) .ret))))))
def cm127_0 : MCode := cm127_0g L127_0_5
theorem gm127_0 : cm127_0.Good Pg E127_0 sh127 := ⟨trivial, ⟨⟨trivial, ⟨trivial, ⟨⟨trivial, trivial⟩, trivial⟩⟩⟩, ⟨⟨trivial, ⟨⟨trivial, trivial⟩, trivial⟩⟩, ⟨trivial, ⟨⟨trivial, ⟨g127_0_23, m127_0_5, trivial⟩⟩, ⟨trivial, trivial⟩⟩⟩⟩⟩⟩
theorem fm127_0g (a : Tf125_0) (c : Tf131_0) (d : Tf132_0) (e : Tf134_0) (b : TL127_0_5) (α : Type) (k : RT α) : Fn127_0 (f127_0g b a) α k = pa127_0.unc fun ds => fnM Pg (E127_0g a c d e) sh127 (cm127_0g b) rs127 k ds := by kernel_rfl
theorem fm127_0 : ∀ (α : Type) (k : RT α), Fn127_0 f127_0 α k = pa127_0.unc fun ds => fnM Pg E127_0 sh127 cm127_0 rs127 k ds := fm127_0g f125_0 f131_0 f132_0 f134_0 L127_0_5
theorem is127 : FnIs Pg 127 nt127 tr127 tl127 cm127_0.erase rs127 := ⟨Tryz.f127, Tryz.func127, rfl, by kernel_rfl, by kernel_rfl, by kernel_rfl⟩
theorem io127_0 : InstOk Pg 127 nt127 ⟨pa127_0, Fn127_0 f127_0⟩ := inst_ok eo127_0 followsTry is127 ⟨⟨sh127, cm127_0, by kernel_rfl, gm127_0, fm127_0⟩⟩
abbrev nt311 : Nat := 9
def sh311 : SG := []
def r311_2 : LA := [oO 4 (.mv (.const (.bool false)))]
def r311_4 : LA := [oM 5 0, oM 6 1, oO 7 (.call 223 [(.tmp 5), (.tmp 6)]), bK 8 .geq 7 0, oM 4 8]
def tr311 : TG := [tT 0 [0, 1], tT 1 [4]]
def tl311 : TG := []
def rs311 : List AResV := [.tmp 4]
def pr311_0_0 : PT (List RV) := pRs [pR false [rD dB]]
def ur311_0_0 {β : Type} (g : List RV -> β) : Bool -> β := pr311_0_0.unc g
def E311_0g (a : Tf223_0) : EnvK := EnvK.of [⟨223, nt223, [⟨pa223_0, Fn223_0 a⟩]⟩] noSeq
def E311_0 : EnvK := E311_0g f223_0
theorem eo311_0 : E311_0.Ok Pg := EnvK.of_ok noSeq_ok ⟨⟨io223_0, trivial⟩, trivial⟩
abbrev Tf311_0 : Type 1 := (α : Type) -> Rows -> (Bool -> Op α) -> Op α
def f311_0g (a : Tf223_0) (α : Type) (b : Rows) (k1 : Bool -> Op α) : Op α :=
 a α b
 (fun c => k1 (decide (0 <= c)))
def f311_0 (α : Type) (a : Rows) (k1 : Bool -> Op α) : Op α := f311_0g f223_0 α a k1
def pa311_0 : PT (List DV) := pA [pV false [dL], pV false [(dFn 312 [])]]
def Fn311_0 (v : Tf311_0) (α : Type) (k : RT α) : Rows -> Op α := fun a => v α a (fun b => ur311_0_0 k b)
def cm311_0g : MCode := (.seq (.region r311_2 [] (tO [0, 1])) (.seq (.region r311_4 [] (tO [4])) .ret))
def cm311_0 : MCode := cm311_0g
theorem gm311_0 : cm311_0.Good Pg E311_0 sh311 := ⟨trivial, ⟨trivial, trivial⟩⟩
theorem fm311_0g (a : Tf223_0) (α : Type) (k : RT α) : Fn311_0 (f311_0g a) α k = pa311_0.unc fun ds => fnM Pg (E311_0g a) sh311 (cm311_0g ) rs311 k ds := by kernel_rfl
theorem fm311_0 : ∀ (α : Type) (k : RT α), Fn311_0 f311_0 α k = pa311_0.unc fun ds => fnM Pg E311_0 sh311 cm311_0 rs311 k ds := fm311_0g f223_0
theorem is311 : FnIs Pg 311 nt311 tr311 tl311 cm311_0.erase rs311 := ⟨Tryz.f311, Tryz.func311, rfl, by kernel_rfl, by kernel_rfl, by kernel_rfl⟩
theorem io311_0 : InstOk Pg 311 nt311 ⟨pa311_0, Fn311_0 f311_0⟩ := inst_ok eo311_0 followsTry is311 ⟨⟨sh311, cm311_0, by kernel_rfl, gm311_0, fm311_0⟩⟩
abbrev nt45 : Nat := 49
def sh45 : SG := [(10, [.cpx .f64, .cpx .f64]), (17, [.cpx .f64]), (20, [.cpx .f64]), (22, iS 2), (23, iS 2), (27, iS 2), (28, iS 2), (32, iS 2), (33, iS 2), (43, iT), (46, iT)]
def r45_2 : LA := [oO 1 (.box (.tmp 0)), oO 2 (.alloc (zI 4)), mK 3 0]
def r45_5 : LA := [lA 10 2 1, oO 11 (.call 115 [.tmp 10]), oM 4 11]
def r45_7 : LA := [oM 12 4, oO 13 (.bin .neq 28 (.tmp 12) (kI 0))]
def r45_10 : LA := [oO 14 (.build (zI 4) []), oM 15 4, sD 4 2 14, oM 3 15]
def r45_12 : LA := [fA 16 0 1, lD 17 16, oO 18 (.call 116 [.tmp 17]), fA 19 1 1, lD 20 19, oO 21 (.call 116 [.tmp 20]), oO 5 (.alloc [(cI 0), (cI 0)]), oO 6 (.alloc [(cI 0), (cI 0)]), sD 2 5 18, sD 2 6 21]
def r45_14 : LA := [lA 22 2 5, lA 23 2 5, oO 24 (.call 118 [.tmp 23]), oO 25 (.call 117 [(.tmp 22), (.tmp 24)]), oO 26 (.field false 0 1 (.tmp 25)), lA 27 2 6, lA 28 2 6, oO 29 (.call 118 [.tmp 28]), oO 30 (.call 117 [(.tmp 27), (.tmp 29)]), oO 31 (.field false 0 1 (.tmp 30)), lA 32 2 5, lA 33 2 6, oO 34 (.call 118 [.tmp 33]), oO 35 (.call 117 [(.tmp 32), (.tmp 34)]), oO 9 (.alloc [(cI 0), (cI 0)]), oM 7 26, oM 8 31, sD 2 9 35]
def r45_16 : LA := [oM 36 7, oM 37 8, bT 38 .add 36 37, oM 39 7, oM 40 8, bT 41 .sub 39 40, fA 42 0 9, lD 43 42, oO 44 (.bin .mul 3 (kI 2) (.tmp 43)), fA 45 1 9, lD 46 45, oO 47 (.bin .mul 3 (kI (-2)) (.tmp 46)), oO 48 (.build (zI 4) [(0, 1, (.tmp 38)), (1, 1, (.tmp 41)), (2, 1, (.tmp 44)), (3, 1, (.tmp 47))]), sD 4 2 48, mK 3 0]
def tr45 : TG := [tT 0 [1, 2], tT 1 [1, 2, 4], tT 2 [1, 2, 4, 13], tT 3 [2, 3], tT 4 [2, 5, 6], tT 5 [2, 7, 8, 9], tT 6 [2, 3]]
def tl45 : TG := []
def rs45 : List AResV := [.cell 2 true 4, .tmp 3]
def pr45_0_0 : PT (List RV) := pRs [pR true [rD (dI .i64), rD (dI .i64), rD (dI .i64), rD (dI .i64)], wI]
def ur45_0_0 {β : Type} (g : List RV -> β) : I5 β := pr45_0_0.unc g
def E45_0g (a : Tf115_0) (b : Tf116_0) (c : Tf118_0) (d : Tf117_0) : EnvK := EnvK.of [⟨115, nt115, [⟨pa115_0, Fn115_0 a⟩]⟩, ⟨116, nt116, [⟨pa116_0, Fn116_0 b⟩]⟩, ⟨118, nt118, [⟨pa118_0, Fn118_0 c⟩]⟩, ⟨117, nt117, [⟨pa117_0, Fn117_0 d⟩]⟩] noSeq
def E45_0 : EnvK := E45_0g f115_0 f116_0 f118_0 f117_0
theorem eo45_0 : E45_0.Ok Pg := EnvK.of_ok noSeq_ok ⟨⟨io115_0, trivial⟩, ⟨io116_0, trivial⟩, ⟨io118_0, trivial⟩, ⟨io117_0, trivial⟩, trivial⟩
abbrev Tf45_0 : Type 1 := (α : Type) -> Nat -> Nat -> Nat -> Nat -> (I5 (Op α)) -> Op α
def f45_0g (r : Tf115_0) (h : Tf116_0) (a : Tf117_0) (b : Tf118_0) (α : Type) (i j l m : Nat) (k1 : I5 (Op α)) : Op α :=
 r α i j l m
 (fun o => cK (o != 0)
 (k1 0 0 0 0 o)
 (h α i j
 (fun c d => h α l m
 (fun e g => b α c d
 (fun s t => a α c d s t
 (fun p F => b α e g
 (fun w z => a α e g w z
 (fun q G => b α e g
 (fun A B => a α c d A B
 (fun C D => k1 (w64 (p + q)) (w64 (p - q)) (w64 (2 * C)) (w64 ((-2) * D)) 0))))))))))
def f45_0 (α : Type) (a b c d : Nat) (k1 : I5 (Op α)) : Op α := f45_0g f115_0 f116_0 f117_0 f118_0 α a b c d k1
def pa45_0 : PT (List DV) := pA [pV true [(dX .f64), (dX .f64)]]
def Fn45_0 (v : Tf45_0) (α : Type) (k : RT α) : Nat -> Nat -> Nat -> Nat -> Op α := fun a b c d => v α a b c d (fun e g h i j => ur45_0_0 k e g h i j)
def cm45_0g : MCode := (.seq (.region r45_2 [] (tO [1, 2])) (.seq (.seq (.region r45_5 [] (tO [1, 2, 4])) (.seq (.region r45_7 [] (tO [1, 2, 4, 13])) (.cond (.tmp 13) (.seq (.region r45_10 [] (tO [2, 3])) .ret) .skip))) (.seq (.region r45_12 [(2, 4), (1, 6), (2, 6), (4, 6), (5, 6), (1, 7), (2, 7), (4, 7), (5, 7), (6, 7)] (tO [2, 5, 6])) (.seq (.region r45_14 [(0, 2), (2, 5), (3, 5), (2, 6), (3, 6), (5, 7), (2, 10), (3, 10), (7, 10), (8, 10), (2, 11), (3, 11), (7, 11), (8, 11), (10, 12), (0, 14), (1, 14), (2, 14), (3, 14), (5, 14), (6, 14), (7, 14), (8, 14), (10, 14), (11, 14), (12, 14), (13, 14)] (tO [2, 7, 8, 9])) (.seq (.region r45_16 [] (tO [2, 3])) .ret)))))
def cm45_0 : MCode := cm45_0g
theorem gm45_0 : cm45_0.Good Pg E45_0 sh45 := ⟨trivial, ⟨⟨trivial, ⟨trivial, ⟨⟨trivial, trivial⟩, trivial⟩⟩⟩, ⟨trivial, ⟨trivial, ⟨trivial, trivial⟩⟩⟩⟩⟩
theorem fm45_0g (a : Tf115_0) (b : Tf116_0) (c : Tf118_0) (d : Tf117_0) (α : Type) (k : RT α) : Fn45_0 (f45_0g a b d c) α k = pa45_0.unc fun ds => fnM Pg (E45_0g a b c d) sh45 (cm45_0g ) rs45 k ds := by kernel_rfl
theorem fm45_0 : ∀ (α : Type) (k : RT α), Fn45_0 f45_0 α k = pa45_0.unc fun ds => fnM Pg E45_0 sh45 cm45_0 rs45 k ds := fm45_0g f115_0 f116_0 f118_0 f117_0
theorem is45 : FnIs Pg 45 nt45 tr45 tl45 cm45_0.erase rs45 := ⟨Tryz.f45, Tryz.func45, rfl, by kernel_rfl, by kernel_rfl, by kernel_rfl⟩
theorem io45_0 : InstOk Pg 45 nt45 ⟨pa45_0, Fn45_0 f45_0⟩ := inst_ok eo45_0 followsTry is45 ⟨⟨sh45, cm45_0, by kernel_rfl, gm45_0, fm45_0⟩⟩
abbrev nt48 : Nat := 175
def sh48 : SG := [(27, iS 3), (29, [.str]), (31, iT), (33, iS 2), (36, iS 6), (39, iS 6), (41, iS 3), (53, iT), (58, iS 6), (68, iS 6), (78, [.str]), (80, iT), (82, iS 2), (87, iS 2), (91, iS 2), (99, iS 2), (102, iS 2), (104, iS 2), (111, iT), (113, iT), (119, iT), (121, iT), (128, iT), (132, iT), (137, iT), (171, iS 2), (174, [.str, .int .i64, .int .i64, .int .i64, .int .i64, .int .i64, .int .i64, .int .i64, .int .i64, .int .i64])]
def r48_2 : LA := [oO 1 (.box (.tmp 0)), ⟨(some 2), (.alloc [(.d (.v (.string ⟨#[]⟩))), (cI 0), (cI 0), (cI 0), (cI 0), (cI 0), (cI 0), (cI 0), (cI 0), (cI 0)]), none⟩, mK 3 0]
def r48_4 : LA := [fA 26 16 1, lA 27 3 26, oO 4 (.alloc (zI 3)), sD 3 4 27]
def r48_7 : LA := [fA 28 0 1, lD 29 28, fA 30 1 1, lD 31 30, fA 32 2 1, lA 33 2 32, oO 34 (.call 124 [(.tmp 29), (.tmp 31), (.tmp 33)]), fA 35 4 1, lA 36 6 35, oO 37 (.call 125 [.tmp 36]), fA 38 10 1, lA 39 6 38, oO 40 (.call 125 [.tmp 39]), lA 41 3 4, oO 42 (.call 126 [.tmp 41]), oO 43 (.build (zI 4) [(0, 1, (.tmp 34)), (1, 1, (.tmp 37)), (2, 1, (.tmp 40)), (3, 1, (.tmp 42))]), mK 44 0]
def td48_9 : OT := (tO [1, 2, 4, 43, 44])
def r48_11 : LA := [bK 45 .lss 44 4]
def r48_17 : LA := [oO 46 (.index false 4 1 (.tmp 43) (.tmp 44)), oM 6 46]
def r48_19 : LA := [oM 47 6, oO 48 (.bin .neq 28 (.tmp 47) (kI 0))]
def r48_22 : LA := [⟨(some 49), (.build [(.d (.v (.string ⟨#[]⟩))), (cI 0), (cI 0), (cI 0), (cI 0), (cI 0), (cI 0), (cI 0), (cI 0), (cI 0)] []), none⟩, oM 50 6, sD 10 2 49, oM 3 50]
def r48_23 : LA := [bK 51 .add 44 1, oM 44 51]
def r48_26 : LA := [fA 52 1 4, lD 53 52, bK 54 .eql 53 0]
def r48_29 : LA := [⟨(some 55), (.build [(.d (.v (.string ⟨#[]⟩))), (cI 0), (cI 0), (cI 0), (cI 0), (cI 0), (cI 0), (cI 0), (cI 0), (cI 0)] []), none⟩, sD 10 2 55, mK 3 9]
def r48_31 : LA := [fA 57 4 1, lA 58 6 57, oO 59 (.call 127 [.tmp 58]), oM 56 59, oO 60 (.extract 0 (.tmp 56)), oO 61 (.extract 1 (.tmp 56)), oO 7 (.alloc (zI 4)), sD 4 7 60, oM 8 61]
def r48_34 : LA := [oM 62 8, oO 63 (.bin .neq 28 (.tmp 62) (kI 0))]
def r48_37 : LA := [⟨(some 64), (.build [(.d (.v (.string ⟨#[]⟩))), (cI 0), (cI 0), (cI 0), (cI 0), (cI 0), (cI 0), (cI 0), (cI 0), (cI 0)] []), none⟩, oM 65 8, sD 10 2 64, oM 3 65]
def r48_39 : LA := [fA 67 10 1, lA 68 6 67, oO 69 (.call 127 [.tmp 68]), oM 66 69, oO 70 (.extract 0 (.tmp 66)), oO 71 (.extract 1 (.tmp 66)), oO 9 (.alloc (zI 4)), sD 4 9 70, oM 8 71]
def r48_42 : LA := [oM 72 8, oO 73 (.bin .neq 28 (.tmp 72) (kI 0))]
def r48_45 : LA := [⟨(some 74), (.build [(.d (.v (.string ⟨#[]⟩))), (cI 0), (cI 0), (cI 0), (cI 0), (cI 0), (cI 0), (cI 0), (cI 0), (cI 0)] []), none⟩, oM 75 8, sD 10 2 74, oM 3 75]
def r48_47 : LA := [oO 76 (.mkfn 128 [(.tmp 4)]), oM 10 76]
def r48_49 : LA := [fA 77 0 1, lD 78 77, fA 79 1 1, lD 80 79, fA 81 2 1, lA 82 2 81, ⟨(some 83), (.build [(.d (.v (.string ⟨#[]⟩))), (cI 0), (cI 0), (cI 0), (cI 0), (cI 0), (cI 0), (cI 0), (cI 0), (cI 0)] [(0, 1, (.tmp 78)), (1, 1, (.tmp 80)), (2, 2, (.tmp 82))]), none⟩, ⟨(some 11), (.alloc [(.d (.v (.string ⟨#[]⟩))), (cI 0), (cI 0), (cI 0), (cI 0), (cI 0), (cI 0), (cI 0), (cI 0), (cI 0)]), none⟩, sD 10 11 83]
def r48_51 : LA := [oM 85 10, oO 86 (.iaddr 2 (some 2) (.tmp 7) (kI 0)), lA 87 2 86, oO 88 (.calld (.tmp 85) [(.tmp 87)]), oM 89 10, oO 90 (.iaddr 2 (some 2) (.tmp 9) (kI 0)), lA 91 2 90, oO 92 (.calld (.tmp 89) [(.tmp 91)]), oO 93 (.call 133 [(.tmp 88), (.tmp 92)]), oM 84 93, oO 94 (.extract 0 (.tmp 84)), oO 95 (.extract 1 (.tmp 84)), oO 12 (.alloc [(cI 0), (cI 0)]), sD 2 12 94, oM 13 95]
def r48_54 : LA := [oM 96 13, oO 97 (.pure (oB (.unOp .not 4 (.tmp 96)) 4))]
def r48_57 : LA := [⟨(some 98), (.build [(.d (.v (.string ⟨#[]⟩))), (cI 0), (cI 0), (cI 0), (cI 0), (cI 0), (cI 0), (cI 0), (cI 0), (cI 0)] []), none⟩, sD 10 2 98, mK 3 14]
def r48_59 : LA := [lA 99 2 12, fA 100 4 11, sD 2 100 99]
def r48_62 : LA := [oO 101 (.iaddr 2 (some 2) (.tmp 7) (kI 1)), lA 102 2 101, oO 103 (.iaddr 2 (some 2) (.tmp 9) (kI 1)), lA 104 2 103, oO 105 (.build (zI 4) [(0, 2, (.tmp 102)), (2, 2, (.tmp 104))]), mK 106 0]
def td48_64 : OT := (tO [2, 4, 11, 12, 105, 106])
def r48_66 : LA := [bK 107 .lss 106 2]
def r48_72 : LA := [oM 108 106, oO 109 (.index true 2 2 (.tmp 105) (.tmp 106)), oO 15 (.alloc [(cI 0), (cI 0)]), oM 14 108, sD 2 15 109]
def r48_74 : LA := [oO 16 (.mv (.const (.slice none 0 0))), oO 17 (.mv (.const (.slice none 0 0)))]
def r48_77 : LA := [fA 110 0 15, lD 111 110, fA 112 1 15, lD 113 112, oO 114 (.build [(cI 0), (cI 0)] [(0, 1, (.tmp 111)), (1, 1, (.tmp 113))]), mK 115 0]
def td48_79 : OT := (some ⟨[2, 4, 11, 12, 14, 16, 17, 105, 106, 114, 115], true, [⟨false, 16, 0, 20016, 1⟩, ⟨false, 17, 0, 20017, 1⟩], []⟩)
def r48_81 : LA := [bK 116 .lss 115 2]
def r48_87 : LA := [oO 117 (.index false 2 1 (.tmp 114) (.tmp 115)), oM 19 117]
def r48_89 : LA := [fA 118 0 12, lD 119 118, fA 120 1 12, lD 121 120, oO 122 (.build [(cI 0), (cI 0)] [(0, 1, (.tmp 119)), (1, 1, (.tmp 121))]), mK 123 0]
def td48_91 : OT := (some ⟨[2, 4, 11, 12, 14, 16, 17, 19, 105, 106, 114, 115, 122, 123], true, [⟨false, 16, 0, 20016, 1⟩, ⟨false, 17, 0, 20017, 1⟩], []⟩)
def r48_93 : LA := [bK 124 .lss 123 2]
def r48_99 : LA := [oO 125 (.index false 2 1 (.tmp 122) (.tmp 123)), oM 21 125]
def r48_101 : LA := [oM 126 19, fA 127 2 4, lD 128 127, bK 129 .mul 128 1048576, oM 130 21, fA 131 0 4, lD 132 131, bT 133 .mul 130 132, bT 134 .sub 129 133, bT 135 .mul 126 134, fA 136 1 4, lD 137 136, bK 138 .mul 137 1048576, oM 22 135, oM 23 138]
def r48_102 : LA := [oM 139 16, oM 140 22, oM 141 23, oO 142 (.call 131 [(.tmp 140), (.tmp 141)]), oO 143 (.bslice 1 1 [(.v (.int .i64 0))] [(0, (.tmp 142))]), oO 144 (.append 1 8 (.tmp 139) (.tmp 143)), oM 145 17, oM 146 22, oM 147 23, oO 148 (.call 132 [(.tmp 146), (.tmp 147)]), oO 149 (.bslice 1 1 [(.v (.int .i64 0))] [(0, (.tmp 148))]), oO 150 (.append 1 8 (.tmp 145) (.tmp 149)), oM 16 144, oM 17 150]
def r48_103 : LA := [bK 151 .add 123 1, oM 123 151]
def r48_104 : LA := [bK 152 .add 115 1, oM 115 152]
def r48_106 : LA := [oM 154 16, oO 155 (.call 135 [.tmp 154]), oM 156 17, oO 157 (.call 136 [.tmp 156]), oO 158 (.build [(cI 0), (cI 0)] [(0, 1, (.tmp 155)), (1, 1, (.tmp 157))]), oO 159 (.call 134 [.tmp 158]), oM 153 159, oO 160 (.extract 0 (.tmp 153)), oO 161 (.extract 1 (.tmp 153)), oO 24 (.alloc [(cI 0), (cI 0)]), sD 2 24 160, oM 25 161]
def r48_109 : LA := [oM 162 25, oO 163 (.bin .neq 28 (.tmp 162) (kI 0))]
def r48_112 : LA := [⟨(some 164), (.build [(.d (.v (.string ⟨#[]⟩))), (cI 0), (cI 0), (cI 0), (cI 0), (cI 0), (cI 0), (cI 0), (cI 0), (cI 0)] []), none⟩, oM 165 25, sD 10 2 164, oM 3 165]
def r48_113 : LA := [fA 166 6 11, fA 167 8 11, oO 168 (.build [(.d (.v (.pointer none))), (.d (.v (.pointer none)))] [(0, 1, (.tmp 166)), (1, 1, (.tmp 167))]), oM 169 14, oO 170 (.index false 2 1 (.tmp 168) (.tmp 169)), lA 171 2 24, oO 172 (.nilchk (.tmp 170)), sD 2 172 171]
def r48_114 : LA := [bK 173 .add 106 1, oM 106 173]
def r48_116 : LA := [lA 174 10 11, sD 10 2 174, mK 3 0]
def tr48 : TG := [tT 0 [1, 2], tT 1 [1, 2, 4], tT 2 [1, 2, 4, 43, 44], tT 3 [1, 2, 4, 43, 44, 45], tT 4 [1, 2, 4, 6, 43, 44], tT 5 [1, 2, 4, 6, 43, 44, 48], tT 6 [2, 3], tT 7 [1, 2, 4, 43, 44], tT 8 [1, 2, 4, 54], tT 9 [2, 3], tT 10 [1, 2, 4, 7, 8], tT 11 [1, 2, 4, 7, 8, 63], tT 12 [2, 3], tT 13 [1, 2, 4, 7, 8, 9], tT 14 [1, 2, 4, 7, 8, 9, 73], tT 15 [2, 3], tT 16 [1, 2, 4, 7, 9, 10], tT 17 [2, 4, 7, 9, 10, 11], tT 18 [2, 4, 7, 9, 11, 12, 13], tT 19 [2, 4, 7, 9, 11, 12, 97], tT 20 [2, 3], tT 21 [2, 4, 7, 9, 11, 12], tT 22 [2, 4, 11, 12, 105, 106], tT 23 [2, 4, 11, 12, 105, 106, 107], tT 24 [2, 4, 11, 12, 14, 15, 105, 106], tT 25 [2, 4, 11, 12, 14, 15, 16, 17, 105, 106], tT 26 [2, 4, 11, 12, 14, 16, 17, 105, 106, 114, 115], tT 27 [2, 4, 11, 12, 14, 16, 17, 105, 106, 114, 115, 116], tT 28 [2, 4, 11, 12, 14, 16, 17, 19, 105, 106, 114, 115], tT 29 [2, 4, 11, 12, 14, 16, 17, 19, 105, 106, 114, 115, 122, 123], tT 30 [2, 4, 11, 12, 14, 16, 17, 19, 105, 106, 114, 115, 122, 123, 124], tT 31 [2, 4, 11, 12, 14, 16, 17, 19, 21, 105, 106, 114, 115, 122, 123], tT 32 [2, 4, 11, 12, 14, 16, 17, 19, 22, 23, 105, 106, 114, 115, 122, 123], tT 33 [2, 4, 11, 12, 14, 16, 17, 19, 105, 106, 114, 115, 122, 123], tT 34 [2, 4, 11, 12, 14, 16, 17, 19, 105, 106, 114, 115, 122, 123], tT 35 [2, 4, 11, 12, 14, 16, 17, 105, 106, 114, 115], tT 36 [2, 4, 11, 12, 14, 24, 25, 105, 106], tT 37 [2, 4, 11, 12, 14, 24, 25, 105, 106, 163], tT 38 [2, 3], tT 39 [2, 4, 11, 12, 105, 106], tT 40 [2, 4, 11, 12, 105, 106], tT 41 [2, 3]]
def tl48 : TG := [tT 3 [1, 2, 4, 43, 44], tT 23 [2, 4, 11, 12, 105, 106], (27, ⟨[2, 4, 11, 12, 14, 16, 17, 105, 106, 114, 115], true, [⟨false, 16, 0, 20016, 1⟩, ⟨false, 17, 0, 20017, 1⟩], []⟩), (30, ⟨[2, 4, 11, 12, 14, 16, 17, 19, 105, 106, 114, 115, 122, 123], true, [⟨false, 16, 0, 20016, 1⟩, ⟨false, 17, 0, 20017, 1⟩], []⟩)]
def rs48 : List AResV := [.cell 2 true 10, .tmp 3]
def p48_0_0 : PT St := pS [sP 1, sP 2, sP 4, sl 43 (aV true (xs 4)), sI 44, sl 45 (aV false [(cD dB)])] [eBox 1 [(cD dS), xI, xI, xI, xI, xI, xI, xI, xI, xI, xI, xI, xI, xI, xI, xI, xI, xI, xI], eBox 2 [(cD dS), xI, xI, xI, xI, xI, xI, xI, xI, xI], eBox 4 (xs 3)]
def u48_0_0 {β : Type} (g : St -> β) : Int -> Int -> Int -> Int -> Int -> Bool -> BA -> Int -> Int -> Int -> Int -> Int -> Int -> Int -> Int -> Int -> Int -> Int -> Int -> Int -> Int -> Int -> Int -> Int -> Int -> BA -> I12 β := p48_0_0.unc g
def p48_0_1 : PT St := pS [sP 1, sP 2, sP 4, sI 6, sl 43 (aV true (xs 4)), sI 44] [eBox 1 [(cD dS), xI, xI, xI, xI, xI, xI, xI, xI, xI, xI, xI, xI, xI, xI, xI, xI, xI, xI], eBox 2 [(cD dS), xI, xI, xI, xI, xI, xI, xI, xI, xI], eBox 4 (xs 3)]
def u48_0_1 {β : Type} (g : St -> β) : Int -> Int -> Int -> Int -> Int -> Int -> BA -> Int -> Int -> Int -> Int -> Int -> Int -> Int -> Int -> Int -> Int -> Int -> Int -> Int -> Int -> Int -> Int -> Int -> Int -> BA -> I12 β := p48_0_1.unc g
def p48_0_2 : PT St := pS [sP 1, sP 2, sP 4, sl 43 (aV true (xs 4)), sI 44] [eBox 1 [(cD dS), xI, xI, xI, xI, xI, xI, xI, xI, xI, xI, xI, xI, xI, xI, xI, xI, xI, xI], eBox 2 [(cD dS), xI, xI, xI, xI, xI, xI, xI, xI, xI], eBox 4 (xs 3)]
def u48_0_2 {β : Type} (g : St -> β) : Int -> Int -> Int -> Int -> Int -> BA -> Int -> Int -> Int -> Int -> Int -> Int -> Int -> Int -> Int -> Int -> Int -> Int -> Int -> Int -> Int -> Int -> Int -> Int -> BA -> I12 β := p48_0_2.unc g
def p48_0_3 : PT St := pS [sP 2, sI 3] [eBox 2 [(cD dS), xI, xI, xI, xI, xI, xI, xI, xI, xI]]
def u48_0_3 {β : Type} (g : St -> β) : Int -> BA -> I9 β := p48_0_3.unc g
def p48_0_4 : PT St := pS [sP 2, sP 4, sP 11, sP 12, sl 105 (aV true (xs 4)), sI 106, sl 107 (aV false [(cD dB)])] [eBox 2 [(cD dS), xI, xI, xI, xI, xI, xI, xI, xI, xI], eBox 4 (xs 3), eBox 11 [(cD dS), xI, xI, xI, xI, xI, xI, xI, xI, xI], eBox 12 [xI, xI]]
def u48_0_4 {β : Type} (g : St -> β) : Int -> Int -> Int -> Int -> Int -> Bool -> BA -> Int -> Int -> Int -> Int -> Int -> Int -> Int -> Int -> Int -> Int -> Int -> Int -> BA -> I11 β := p48_0_4.unc g
def p48_0_5 : PT St := pS [sP 2, sP 4, sP 11, sP 12, sI 14, sP 15, sl 105 (aV true (xs 4)), sI 106] [eBox 2 [(cD dS), xI, xI, xI, xI, xI, xI, xI, xI, xI], eBox 4 (xs 3), eBox 11 [(cD dS), xI, xI, xI, xI, xI, xI, xI, xI, xI], eBox 12 [xI, xI], eBox 15 [xI, xI]]
def u48_0_5 {β : Type} (g : St -> β) : Int -> Int -> Int -> Int -> Int -> Int -> BA -> Int -> Int -> Int -> Int -> Int -> Int -> Int -> Int -> Int -> Int -> Int -> Int -> BA -> I13 β := p48_0_5.unc g
def p48_0_6 : PT St := pS [sP 2, sP 4, sP 11, sP 12, sI 14, sl 16 (aV false [(cRef 20016)]), sl 17 (aV false [(cRef 20017)]), sl 105 (aV true (xs 4)), sI 106, sl 114 (aV true [xI, xI]), sI 115, sl 116 (aV false [(cD dB)])] [eBox 2 [(cD dS), xI, xI, xI, xI, xI, xI, xI, xI, xI], eBox 4 (xs 3), eBox 11 [(cD dS), xI, xI, xI, xI, xI, xI, xI, xI, xI], eBox 12 [xI, xI], eOwn 20016 1, eOwn 20017 1]
def u48_0_6 {β : Type} (g : St -> β) : Int -> Int -> Int -> Int -> Int -> Int -> Int -> Int -> Int -> Bool -> BA -> Int -> Int -> Int -> Int -> Int -> Int -> Int -> Int -> Int -> Int -> Int -> Int -> BA -> Int -> Int -> Int -> Int -> Int -> Int -> Int -> Int -> Int -> Int -> Int -> Rows -> Rows -> β := p48_0_6.unc g
def p48_0_7 : PT St := pS [sP 2, sP 4, sP 11, sP 12, sI 14, sl 16 (aV false [(cRef 20016)]), sl 17 (aV false [(cRef 20017)]), sI 19, sl 105 (aV true (xs 4)), sI 106, sl 114 (aV true [xI, xI]), sI 115] [eBox 2 [(cD dS), xI, xI, xI, xI, xI, xI, xI, xI, xI], eBox 4 (xs 3), eBox 11 [(cD dS), xI, xI, xI, xI, xI, xI, xI, xI, xI], eBox 12 [xI, xI], eOwn 20016 1, eOwn 20017 1]
def u48_0_7 {β : Type} (g : St -> β) : Int -> Int -> Int -> Int -> Int -> Int -> Int -> Int -> Int -> Int -> BA -> Int -> Int -> Int -> Int -> Int -> Int -> Int -> Int -> Int -> Int -> Int -> Int -> BA -> Int -> Int -> Int -> Int -> Int -> Int -> Int -> Int -> Int -> Int -> Int -> Rows -> Rows -> β := p48_0_7.unc g
def p48_0_8 : PT St := pS [sP 2, sP 4, sP 11, sP 12, sI 14, sl 16 (aV false [(cRef 20016)]), sl 17 (aV false [(cRef 20017)]), sI 19, sl 105 (aV true (xs 4)), sI 106, sl 114 (aV true [xI, xI]), sI 115, sl 122 (aV true [xI, xI]), sI 123, sl 124 (aV false [(cD dB)])] [eBox 2 [(cD dS), xI, xI, xI, xI, xI, xI, xI, xI, xI], eBox 4 (xs 3), eBox 11 [(cD dS), xI, xI, xI, xI, xI, xI, xI, xI, xI], eBox 12 [xI, xI], eOwn 20016 1, eOwn 20017 1]
def u48_0_8 {β : Type} (g : St -> β) : Int -> Int -> Int -> Int -> Int -> Int -> Int -> Int -> Int -> Int -> Int -> Int -> Int -> Bool -> BA -> Int -> Int -> Int -> Int -> Int -> Int -> Int -> Int -> Int -> Int -> Int -> Int -> BA -> Int -> Int -> Int -> Int -> Int -> Int -> Int -> Int -> Int -> Int -> Int -> Rows -> Rows -> β := p48_0_8.unc g
def p48_0_9 : PT St := pS [sP 2, sP 4, sP 11, sP 12, sI 14, sl 16 (aV false [(cRef 20016)]), sl 17 (aV false [(cRef 20017)]), sI 19, sI 21, sl 105 (aV true (xs 4)), sI 106, sl 114 (aV true [xI, xI]), sI 115, sl 122 (aV true [xI, xI]), sI 123] [eBox 2 [(cD dS), xI, xI, xI, xI, xI, xI, xI, xI, xI], eBox 4 (xs 3), eBox 11 [(cD dS), xI, xI, xI, xI, xI, xI, xI, xI, xI], eBox 12 [xI, xI], eOwn 20016 1, eOwn 20017 1]
def u48_0_9 {β : Type} (g : St -> β) : Int -> Int -> Int -> Int -> Int -> Int -> Int -> Int -> Int -> Int -> Int -> Int -> Int -> Int -> BA -> Int -> Int -> Int -> Int -> Int -> Int -> Int -> Int -> Int -> Int -> Int -> Int -> BA -> Int -> Int -> Int -> Int -> Int -> Int -> Int -> Int -> Int -> Int -> Int -> Rows -> Rows -> β := p48_0_9.unc g
def p48_0_10 : PT St := pS [sP 2, sP 4, sP 11, sP 12, sI 14, sl 16 (aV false [(cRef 20016)]), sl 17 (aV false [(cRef 20017)]), sI 19, sl 105 (aV true (xs 4)), sI 106, sl 114 (aV true [xI, xI]), sI 115, sl 122 (aV true [xI, xI]), sI 123] [eBox 2 [(cD dS), xI, xI, xI, xI, xI, xI, xI, xI, xI], eBox 4 (xs 3), eBox 11 [(cD dS), xI, xI, xI, xI, xI, xI, xI, xI, xI], eBox 12 [xI, xI], eOwn 20016 1, eOwn 20017 1]
def u48_0_10 {β : Type} (g : St -> β) : Int -> Int -> Int -> Int -> Int -> Int -> Int -> Int -> Int -> Int -> Int -> Int -> Int -> BA -> Int -> Int -> Int -> Int -> Int -> Int -> Int -> Int -> Int -> Int -> Int -> Int -> BA -> Int -> Int -> Int -> Int -> Int -> Int -> Int -> Int -> Int -> Int -> Int -> Rows -> Rows -> β := p48_0_10.unc g
def p48_0_11 : PT St := pS [sP 2, sP 4, sP 11, sP 12, sI 14, sl 16 (aV false [(cRef 20016)]), sl 17 (aV false [(cRef 20017)]), sl 105 (aV true (xs 4)), sI 106, sl 114 (aV true [xI, xI]), sI 115] [eBox 2 [(cD dS), xI, xI, xI, xI, xI, xI, xI, xI, xI], eBox 4 (xs 3), eBox 11 [(cD dS), xI, xI, xI, xI, xI, xI, xI, xI, xI], eBox 12 [xI, xI], eOwn 20016 1, eOwn 20017 1]
def u48_0_11 {β : Type} (g : St -> β) : Int -> Int -> Int -> Int -> Int -> Int -> Int -> Int -> Int -> BA -> Int -> Int -> Int -> Int -> Int -> Int -> Int -> Int -> Int -> Int -> Int -> Int -> BA -> Int -> Int -> Int -> Int -> Int -> Int -> Int -> Int -> Int -> Int -> Int -> Rows -> Rows -> β := p48_0_11.unc g
def p48_0_12 : PT St := pS [sP 2, sP 4, sP 11, sP 12, sl 105 (aV true (xs 4)), sI 106] [eBox 2 [(cD dS), xI, xI, xI, xI, xI, xI, xI, xI, xI], eBox 4 (xs 3), eBox 11 [(cD dS), xI, xI, xI, xI, xI, xI, xI, xI, xI], eBox 12 [xI, xI]]
def u48_0_12 {β : Type} (g : St -> β) : Int -> Int -> Int -> Int -> Int -> BA -> Int -> Int -> Int -> Int -> Int -> Int -> Int -> Int -> Int -> Int -> Int -> Int -> BA -> I11 β := p48_0_12.unc g
def pr48_0_0 : PT (List RV) := pRs [pR true [rD dS, rD (dI .i64), rD (dI .i64), rD (dI .i64), rD (dI .i64), rD (dI .i64), rD (dI .i64), rD (dI .i64), rD (dI .i64), rD (dI .i64)], wI]
def ur48_0_0 {β : Type} (g : List RV -> β) : BA -> I10 β := pr48_0_0.unc g
def E48_0g (a : Tf124_0) (b : Tf125_0) (c : Tf126_0) (d : Tf127_0) (e : Tf128_0) (g : Tf133_0) (h : Tf131_0) (i : Tf132_0) (j : Tf135_0) (l : Tf136_0) (m : Tf134_0) : EnvK := EnvK.of [⟨124, nt124, [⟨pa124_0, Fn124_0 a⟩]⟩, ⟨125, nt125, [⟨pa125_0, Fn125_0 b⟩]⟩, ⟨126, nt126, [⟨pa126_0, Fn126_0 c⟩]⟩, ⟨127, nt127, [⟨pa127_0, Fn127_0 d⟩]⟩, ⟨128, nt128, [⟨pa128_0, Fn128_0 e⟩]⟩, ⟨133, nt133, [⟨pa133_0, Fn133_0 g⟩]⟩, ⟨131, nt131, [⟨pa131_0, Fn131_0 h⟩]⟩, ⟨132, nt132, [⟨pa132_0, Fn132_0 i⟩]⟩, ⟨135, nt135, [⟨pa135_0, Fn135_0 j⟩]⟩, ⟨136, nt136, [⟨pa136_0, Fn136_0 l⟩]⟩, ⟨134, nt134, [⟨pa134_0, Fn134_0 m⟩]⟩] noSeq
def E48_0 : EnvK := E48_0g f124_0 f125_0 f126_0 f127_0 f128_0 f133_0 f131_0 f132_0 f135_0 f136_0 f134_0
theorem eo48_0 : E48_0.Ok Pg := EnvK.of_ok noSeq_ok ⟨⟨io124_0, trivial⟩, ⟨io125_0, trivial⟩, ⟨io126_0, trivial⟩, ⟨io127_0, trivial⟩, ⟨io128_0, trivial⟩, ⟨io133_0, trivial⟩, ⟨io131_0, trivial⟩, ⟨io132_0, trivial⟩, ⟨io135_0, trivial⟩, ⟨io136_0, trivial⟩, ⟨io134_0, trivial⟩, trivial⟩
def c48_0_98g : MCode := (.region r48_99 [] (tO [2, 4, 11, 12, 14, 16, 17, 19, 21, 105, 106, 114, 115, 122, 123]))
def c48_0_98 : MCode := c48_0_98g
theorem g48_0_98 : c48_0_98.Good Pg E48_0 sh48 := trivial
abbrev TJ48_0_4 : Type 1 := (α : Type) -> Int -> Int -> Int -> (Int -> Op α) -> Op α
def J48_0_4g (α : Type) (b c a : Int) (k1 : Int -> Op α) : Op α :=
 cK (a == 1)
 (k1 c)
 (cK (a == 0)
 (k1 b)
 (none))
def J48_0_4 (α : Type) (a b c : Int) (k1 : Int -> Op α) : Op α := J48_0_4g α a b c k1
def F48_0_4 (v : TJ48_0_4) (α : Type) (K : KT α) : Int -> Int -> Int -> Int -> Int -> Int -> Int -> Int -> Int -> Int -> Int -> Int -> Int -> Bool -> BA -> Int -> Int -> Int -> Int -> Int -> Int -> Int -> Int -> Int -> Int -> Int -> Int -> BA -> Int -> Int -> Int -> Int -> Int -> Int -> Int -> Int -> Int -> Int -> Int -> Rows -> Rows -> Op α := fun d e g h i j l m o p a b c Z q r s t w z A B C D F G H I J L M N O P Q R T U V W X => v α a b c (fun Y => u48_0_9 (K .normal) d e Y g h i j l m o p a b c q r s t w z A B C D F G H I J L M N O P Q R T U V W X)
theorem m48_0_4g (a : Tf124_0) (b : Tf125_0) (c : Tf126_0) (d : Tf127_0) (e : Tf128_0) (g : Tf133_0) (h : Tf131_0) (i : Tf132_0) (j : Tf135_0) (l : Tf136_0) (m : Tf134_0) (α : Type) (K : KT α) : F48_0_4 (J48_0_4g ) α K = p48_0_8.unc fun σ => runM Pg (E48_0g a b c d e g h i j l m) sh48 (c48_0_98g ) K σ := by kernel_rfl
theorem m48_0_4 : ∀ (α : Type) (K : KT α), F48_0_4 J48_0_4 α K = p48_0_8.unc fun σ => runM Pg E48_0 sh48 c48_0_98 K σ := m48_0_4g f124_0 f125_0 f126_0 f127_0 f128_0 f133_0 f131_0 f132_0 f135_0 f136_0 f134_0
def c48_0_91g (a : TJ48_0_4) : MCode := (.seq (.region r48_93 [] (tO [2, 4, 11, 12, 14, 16, 17, 19, 105, 106, 114, 115, 122, 123, 124])) (.seq (.cond (.tmp 124) .skip (.exit 6)) (.seq (.block 7 (.seq (.mark [⟨p48_0_8, F48_0_4 a⟩] c48_0_98) (.seq (.region r48_101 [] (tO [2, 4, 11, 12, 14, 16, 17, 19, 22, 23, 105, 106, 114, 115, 122, 123])) (.region r48_102 [] (tO [2, 4, 11, 12, 14, 16, 17, 19, 105, 106, 114, 115, 122, 123]))))) (.region r48_103 [] (tO [2, 4, 11, 12, 14, 16, 17, 19, 105, 106, 114, 115, 122, 123])))))
def c48_0_91 : MCode := c48_0_91g J48_0_4
theorem g48_0_91 : c48_0_91.Good Pg E48_0 sh48 := ⟨trivial, ⟨⟨trivial, trivial⟩, ⟨⟨⟨g48_0_98, m48_0_4, trivial⟩, ⟨trivial, trivial⟩⟩, trivial⟩⟩⟩
def S48_0_5g (m : TJ48_0_4) (o : Tf131_0) (p : Tf132_0) (α : Type) (d q r e g h a : Int) (b c : Rows) (kn : Int -> Rows -> Rows -> Op α) (k1 : Int -> Bool -> Rows -> Rows -> Op α) : Op α :=
 cK (decide (a < 2))
 (m α q r a
 (fun i => o α (w64 (d * (w64 ((w64 (h * 1048576)) - (w64 (i * e)))))) (w64 (g * 1048576))
 (fun j => gK (apOk 1 8 b [[DC.v (.int .i64 j)]]) (p α (w64 (d * (w64 ((w64 (h * 1048576)) - (w64 (i * e)))))) (w64 (g * 1048576))
 (fun l => gK (apOk 1 8 c [[DC.v (.int .i64 l)]]) (kn (w64 (a + 1)) (b ++ [[DC.v (.int .i64 j)]]) (c ++ [[DC.v (.int .i64 l)]])))))))
 (k1 a (decide (a < 2)) b c)
def S48_0_5 (α : Type) (a b c d e g h : Int) (i j : Rows) (kn : Int -> Rows -> Rows -> Op α) (k1 : Int -> Bool -> Rows -> Rows -> Op α) : Op α := S48_0_5g J48_0_4 f131_0 f132_0 α a b c d e g h i j kn k1
def R48_0_5 (α : Type) (a b c d e g : Int) (k1 : Int -> Bool -> Rows -> Rows -> Op α) : Nat -> Int -> Rows -> Rows -> Op α
 | 0, _, _, _ => none
 | n + 1, h, i, j => S48_0_5 α a b c d e g h i j (R48_0_5 α a b c d e g k1 n) k1
def L48_0_5 (α : Type) (a b c d e g : Int) (k1 : Int -> Bool -> Rows -> Rows -> Op α) (h : Int) (i j : Rows) : Op α := R48_0_5 α a b c d e g k1 fuel h i j
abbrev TL48_0_5 : Type 1 := (α : Type) -> Int -> Int -> Int -> Int -> Int -> Int -> (Int -> Bool -> Rows -> Rows -> Op α) -> Int -> Rows -> Rows -> Op α
def F48_0_5 (v : TL48_0_5) (α : Type) (K : KT α) : Int -> Int -> Int -> Int -> Int -> Int -> Int -> Int -> Int -> Int -> Int -> Int -> Int -> BA -> Int -> Int -> Int -> Int -> Int -> Int -> Int -> Int -> Int -> Int -> Int -> Int -> BA -> Int -> Int -> Int -> Int -> Int -> Int -> Int -> Int -> Int -> Int -> Int -> Rows -> Rows -> Op α := fun h a i j l m o p q r b c s t w z A B C D F G H d e g I J L M N O P Q R T U V W X => v α a b c d e g (fun Y Z a0 a1 => u48_0_8 (K (.exit 6)) h a i j l m o p q r b c Y Z t w z A B C D F G H d e g I J L M N O P Q R T U V a0 a1) s W X
theorem r48_0_5g (a1 : Tf124_0) (a2 : Tf125_0) (a3 : Tf126_0) (a4 : Tf127_0) (a5 : Tf128_0) (a6 : Tf133_0) (Y : Tf131_0) (Z : Tf132_0) (a7 : Tf135_0) (a8 : Tf136_0) (a9 : Tf134_0) (a0 : TJ48_0_4) (α : Type) (K : KT α) (Kn : SK α) (l a m o p q r s t w b c d : Int) (z : BA) (A B C D F G H I J e g h : Int) (L : BA) (M N O P Q R T U V W X : Int) (i j : Rows) : u48_0_10 (fun σ => runM Pg (E48_0g a1 a2 a3 a4 a5 a6 Y Z a7 a8 a9) sh48 (c48_0_91g a0) (thenK (fun σ => tidyK td48_91 σ Kn) K) σ) l a m o p q r s t w b c d z A B C D F G H I J e g h L M N O P Q R T U V W X i j = S48_0_5g a0 Y Z α a b c e g h d i j (fun d i j => u48_0_10 Kn l a m o p q r s t w b c d z A B C D F G H I J e g h L M N O P Q R T U V W X i j) (fun b0 b1 b2 b3 => u48_0_8 (K (.exit 6)) l a m o p q r s t w b c b0 b1 z A B C D F G H I J e g h L M N O P Q R T U V W X b2 b3) := by kernel_rfl
theorem r48_0_5 (α : Type) (K : KT α) (Kn : SK α) (l a m o p q r s t w b c d : Int) (z : BA) (A B C D F G H I J e g h : Int) (L : BA) (M N O P Q R T U V W X : Int) (i j : Rows) : u48_0_10 (fun σ => runM Pg E48_0 sh48 c48_0_91 (thenK (fun σ => tidyK td48_91 σ Kn) K) σ) l a m o p q r s t w b c d z A B C D F G H I J e g h L M N O P Q R T U V W X i j = S48_0_5 α a b c e g h d i j (fun d i j => u48_0_10 Kn l a m o p q r s t w b c d z A B C D F G H I J e g h L M N O P Q R T U V W X i j) (fun Y Z a0 a1 => u48_0_8 (K (.exit 6)) l a m o p q r s t w b c Y Z z A B C D F G H I J e g h L M N O P Q R T U V W X a0 a1) := r48_0_5g f124_0 f125_0 f126_0 f127_0 f128_0 f133_0 f131_0 f132_0 f135_0 f136_0 f134_0 J48_0_4 α K Kn l a m o p q r s t w b c d z A B C D F G H I J e g h L M N O P Q R T U V W X i j
theorem t48_0_5 (α : Type) (K : KT α) : ∀ (n : Nat) (l a m o p q r s t w b c h : Int) (z : BA) (A B C D F G H I J d e g : Int) (L : BA) (M N O P Q R T U V W X : Int) (i j : Rows), R48_0_5 α a b c d e g (fun Y Z a0 a1 => u48_0_8 (K (.exit 6)) l a m o p q r s t w b c Y Z z A B C D F G H I J d e g L M N O P Q R T U V W X a0 a1) n h i j = u48_0_10 (loopT (runM Pg E48_0 sh48 c48_0_91) td48_91 K n) l a m o p q r s t w b c h z A B C D F G H I J d e g L M N O P Q R T U V W X i j := by
 intro n
 induction n with
 | zero => intros; rfl
 | succ n ih => intro l a m o p q r s t w b c h z A B C D F G H I J d e g L M N O P Q R T U V W X i j; exact (congrArg (fun kn => S48_0_5 α a b c d e g h i j kn (fun Y Z a0 a1 => u48_0_8 (K (.exit 6)) l a m o p q r s t w b c Y Z z A B C D F G H I J d e g L M N O P Q R T U V W X a0 a1)) (funext fun h => funext fun i => funext fun j => ih l a m o p q r s t w b c h z A B C D F G H I J d e g L M N O P Q R T U V W X i j)).trans (r48_0_5 α K (loopT (runM Pg E48_0 sh48 c48_0_91) td48_91 K n) l a m o p q r s t w b c h z A B C D F G H I J d e g L M N O P Q R T U V W X i j).symm
theorem m48_0_5 : ∀ (α : Type) (K : KT α), F48_0_5 L48_0_5 α K = p48_0_10.unc fun σ => loopT (runM Pg E48_0 sh48 c48_0_91) td48_91 K fuel σ := fun α K => by funext a b c d e g h i j l m o p q r s t w z A B C D F G H I J L M N O P Q R T U V W X; exact t48_0_5 α K fuel a b c d e g h i j l m o p q r s t w z A B C D F G H I J L M N O P Q R T U V W X
def c48_0_86g : MCode := (.region r48_87 [] (tO [2, 4, 11, 12, 14, 16, 17, 19, 105, 106, 114, 115]))
def c48_0_86 : MCode := c48_0_86g
theorem g48_0_86 : c48_0_86.Good Pg E48_0 sh48 := trivial
abbrev TJ48_0_3 : Type 1 := (α : Type) -> Int -> Int -> Int -> (Int -> Op α) -> Op α
def J48_0_3g (α : Type) (b c a : Int) (k1 : Int -> Op α) : Op α :=
 cK (a == 1)
 (k1 c)
 (cK (a == 0)
 (k1 b)
 (none))
def J48_0_3 (α : Type) (a b c : Int) (k1 : Int -> Op α) : Op α := J48_0_3g α a b c k1
def F48_0_3 (v : TJ48_0_3) (α : Type) (K : KT α) : Int -> Int -> Int -> Int -> Int -> Int -> Int -> Int -> Int -> Bool -> BA -> Int -> Int -> Int -> Int -> Int -> Int -> Int -> Int -> Int -> Int -> Int -> Int -> BA -> Int -> Int -> Int -> Int -> Int -> Int -> Int -> Int -> Int -> Int -> Int -> Rows -> Rows -> Op α := fun d e g h i j a b c V l m o p q r s t w z A B C D F G H I J L M N O P Q R T => v α a b c (fun U => u48_0_7 (K .normal) d U e g h i j a b c l m o p q r s t w z A B C D F G H I J L M N O P Q R T)
theorem m48_0_3g (a : Tf124_0) (b : Tf125_0) (c : Tf126_0) (d : Tf127_0) (e : Tf128_0) (g : Tf133_0) (h : Tf131_0) (i : Tf132_0) (j : Tf135_0) (l : Tf136_0) (m : Tf134_0) (α : Type) (K : KT α) : F48_0_3 (J48_0_3g ) α K = p48_0_6.unc fun σ => runM Pg (E48_0g a b c d e g h i j l m) sh48 (c48_0_86g ) K σ := by kernel_rfl
theorem m48_0_3 : ∀ (α : Type) (K : KT α), F48_0_3 J48_0_3 α K = p48_0_6.unc fun σ => runM Pg E48_0 sh48 c48_0_86 K σ := m48_0_3g f124_0 f125_0 f126_0 f127_0 f128_0 f133_0 f131_0 f132_0 f135_0 f136_0 f134_0
def c48_0_79g (a : TJ48_0_3) (b : TL48_0_5) : MCode := (.seq (.region r48_81 [] (tO [2, 4, 11, 12, 14, 16, 17, 105, 106, 114, 115, 116])) (.seq (.cond (.tmp 116) .skip (.exit 4)) (.seq (.block 5 (.seq (.mark [⟨p48_0_6, F48_0_3 a⟩] c48_0_86) (.seq (.region r48_89 [] (tO [2, 4, 11, 12, 14, 16, 17, 19, 105, 106, 114, 115, 122, 123])) (.block 6 (.loop td48_91 [⟨p48_0_10, F48_0_5 b⟩] c48_0_91))))) (.region r48_104 [] (tO [2, 4, 11, 12, 14, 16, 17, 105, 106, 114, 115])))))
def c48_0_79 : MCode := c48_0_79g J48_0_3 L48_0_5
theorem g48_0_79 : c48_0_79.Good Pg E48_0 sh48 := ⟨trivial, ⟨⟨trivial, trivial⟩, ⟨⟨⟨g48_0_86, m48_0_3, trivial⟩, ⟨trivial, ⟨g48_0_91, m48_0_5, trivial⟩⟩⟩, trivial⟩⟩⟩
def S48_0_6g (d : TJ48_0_3) (e : TL48_0_5) (α : Type) (g h i j l m o a : Int) (b c : Rows) (kn : Int -> Rows -> Rows -> Op α) (k1 : Int -> Bool -> Rows -> Rows -> Op α) : Op α :=
 cK (decide (a < 2))
 (d α g h a
 (fun p => e α p m o i j l
 (fun s t q r => kn (w64 (a + 1)) q r) 0 b c))
 (k1 a (decide (a < 2)) b c)
def S48_0_6 (α : Type) (a b c d e g h i : Int) (j l : Rows) (kn : Int -> Rows -> Rows -> Op α) (k1 : Int -> Bool -> Rows -> Rows -> Op α) : Op α := S48_0_6g J48_0_3 L48_0_5 α a b c d e g h i j l kn k1
def R48_0_6 (α : Type) (a b c d e g h : Int) (k1 : Int -> Bool -> Rows -> Rows -> Op α) : Nat -> Int -> Rows -> Rows -> Op α
 | 0, _, _, _ => none
 | n + 1, i, j, l => S48_0_6 α a b c d e g h i j l (R48_0_6 α a b c d e g h k1 n) k1
def L48_0_6 (α : Type) (a b c d e g h : Int) (k1 : Int -> Bool -> Rows -> Rows -> Op α) (i : Int) (j l : Rows) : Op α := R48_0_6 α a b c d e g h k1 fuel i j l
abbrev TL48_0_6 : Type 1 := (α : Type) -> Int -> Int -> Int -> Int -> Int -> Int -> Int -> (Int -> Bool -> Rows -> Rows -> Op α) -> Int -> Rows -> Rows -> Op α
def F48_0_6 (v : TL48_0_6) (α : Type) (K : KT α) : Int -> Int -> Int -> Int -> Int -> Int -> Int -> Int -> Int -> BA -> Int -> Int -> Int -> Int -> Int -> Int -> Int -> Int -> Int -> Int -> Int -> Int -> BA -> Int -> Int -> Int -> Int -> Int -> Int -> Int -> Int -> Int -> Int -> Int -> Rows -> Rows -> Op α := fun i j l m o p a b q r s t w z A B C D F c d e G H I J L M N O P Q g h R T => v α a b c d e g h (fun U V W X => u48_0_6 (K (.exit 4)) i j l m o p a b U V r s t w z A B C D F c d e G H I J L M N O P Q g h W X) q R T
theorem r48_0_6g (W : Tf124_0) (X : Tf125_0) (Y : Tf126_0) (Z : Tf127_0) (a0 : Tf128_0) (a1 : Tf133_0) (a2 : Tf131_0) (a3 : Tf132_0) (a4 : Tf135_0) (a5 : Tf136_0) (a6 : Tf134_0) (U : TJ48_0_3) (V : TL48_0_5) (α : Type) (K : KT α) (Kn : SK α) (m o p q r s a b c : Int) (t : BA) (w z A B C D F G H d e g : Int) (I : BA) (J L M N O P Q R T h i : Int) (j l : Rows) : u48_0_11 (fun σ => runM Pg (E48_0g W X Y Z a0 a1 a2 a3 a4 a5 a6) sh48 (c48_0_79g U V) (thenK (fun σ => tidyK td48_79 σ Kn) K) σ) m o p q r s a b c t w z A B C D F G H d e g I J L M N O P Q R T h i j l = S48_0_6g U V α a b d e g h i c j l (fun c j l => u48_0_11 Kn m o p q r s a b c t w z A B C D F G H d e g I J L M N O P Q R T h i j l) (fun a7 a8 a9 b0 => u48_0_6 (K (.exit 4)) m o p q r s a b a7 a8 t w z A B C D F G H d e g I J L M N O P Q R T h i a9 b0) := by kernel_rfl
theorem r48_0_6 (α : Type) (K : KT α) (Kn : SK α) (m o p q r s a b c : Int) (t : BA) (w z A B C D F G H d e g : Int) (I : BA) (J L M N O P Q R T h i : Int) (j l : Rows) : u48_0_11 (fun σ => runM Pg E48_0 sh48 c48_0_79 (thenK (fun σ => tidyK td48_79 σ Kn) K) σ) m o p q r s a b c t w z A B C D F G H d e g I J L M N O P Q R T h i j l = S48_0_6 α a b d e g h i c j l (fun c j l => u48_0_11 Kn m o p q r s a b c t w z A B C D F G H d e g I J L M N O P Q R T h i j l) (fun U V W X => u48_0_6 (K (.exit 4)) m o p q r s a b U V t w z A B C D F G H d e g I J L M N O P Q R T h i W X) := r48_0_6g f124_0 f125_0 f126_0 f127_0 f128_0 f133_0 f131_0 f132_0 f135_0 f136_0 f134_0 J48_0_3 L48_0_5 α K Kn m o p q r s a b c t w z A B C D F G H d e g I J L M N O P Q R T h i j l
theorem t48_0_6 (α : Type) (K : KT α) : ∀ (n : Nat) (m o p q r s a b i : Int) (t : BA) (w z A B C D F G H c d e : Int) (I : BA) (J L M N O P Q R T g h : Int) (j l : Rows), R48_0_6 α a b c d e g h (fun U V W X => u48_0_6 (K (.exit 4)) m o p q r s a b U V t w z A B C D F G H c d e I J L M N O P Q R T g h W X) n i j l = u48_0_11 (loopT (runM Pg E48_0 sh48 c48_0_79) td48_79 K n) m o p q r s a b i t w z A B C D F G H c d e I J L M N O P Q R T g h j l := by
 intro n
 induction n with
 | zero => intros; rfl
 | succ n ih => intro m o p q r s a b i t w z A B C D F G H c d e I J L M N O P Q R T g h j l; exact (congrArg (fun kn => S48_0_6 α a b c d e g h i j l kn (fun U V W X => u48_0_6 (K (.exit 4)) m o p q r s a b U V t w z A B C D F G H c d e I J L M N O P Q R T g h W X)) (funext fun i => funext fun j => funext fun l => ih m o p q r s a b i t w z A B C D F G H c d e I J L M N O P Q R T g h j l)).trans (r48_0_6 α K (loopT (runM Pg E48_0 sh48 c48_0_79) td48_79 K n) m o p q r s a b i t w z A B C D F G H c d e I J L M N O P Q R T g h j l).symm
theorem m48_0_6 : ∀ (α : Type) (K : KT α), F48_0_6 L48_0_6 α K = p48_0_11.unc fun σ => loopT (runM Pg E48_0 sh48 c48_0_79) td48_79 K fuel σ := fun α K => by funext a b c d e g h i j l m o p q r s t w z A B C D F G H I J L M N O P Q R T; exact t48_0_6 α K fuel a b c d e g h i j l m o p q r s t w z A B C D F G H I J L M N O P Q R T
def c48_0_71g : MCode := (.region r48_72 [] (tO [2, 4, 11, 12, 14, 15, 105, 106]))
def c48_0_71 : MCode := c48_0_71g
theorem g48_0_71 : c48_0_71.Good Pg E48_0 sh48 := trivial
abbrev TJ48_0_2 : Type 1 := (α : Type) -> Int -> Int -> Int -> Int -> Int -> (Int -> Int -> Op α) -> Op α
def J48_0_2g (α : Type) (b c d e a : Int) (k1 : Int -> Int -> Op α) : Op α :=
 cK (a == 1)
 (k1 d e)
 (cK (a == 0)
 (k1 b c)
 (none))
def J48_0_2 (α : Type) (a b c d e : Int) (k1 : Int -> Int -> Op α) : Op α := J48_0_2g α a b c d e k1
def F48_0_2 (v : TJ48_0_2) (α : Type) (K : KT α) : Int -> Int -> Int -> Int -> Int -> Bool -> BA -> Int -> Int -> Int -> Int -> Int -> Int -> Int -> Int -> Int -> Int -> Int -> Int -> BA -> I11 (Op α) := fun b c d e a P g h i j l m o p q r s t w z A B C D F G H I J L M => v α b c d e a (fun N O => u48_0_5 (K .normal) a b c d e a g h i j l m o p q r s t w z A B C D F G H I J L M N O)
theorem m48_0_2g (a : Tf124_0) (b : Tf125_0) (c : Tf126_0) (d : Tf127_0) (e : Tf128_0) (g : Tf133_0) (h : Tf131_0) (i : Tf132_0) (j : Tf135_0) (l : Tf136_0) (m : Tf134_0) (α : Type) (K : KT α) : F48_0_2 (J48_0_2g ) α K = p48_0_4.unc fun σ => runM Pg (E48_0g a b c d e g h i j l m) sh48 (c48_0_71g ) K σ := by kernel_rfl
theorem m48_0_2 : ∀ (α : Type) (K : KT α), F48_0_2 J48_0_2 α K = p48_0_4.unc fun σ => runM Pg E48_0 sh48 c48_0_71 K σ := m48_0_2g f124_0 f125_0 f126_0 f127_0 f128_0 f133_0 f131_0 f132_0 f135_0 f136_0 f134_0
def c48_0_64g (a : TJ48_0_2) (b : TL48_0_6) : MCode := (.seq (.region r48_66 [] (tO [2, 4, 11, 12, 105, 106, 107])) (.seq (.cond (.tmp 107) .skip (.exit 2)) (.seq (.block 3 (.seq (.mark [⟨p48_0_4, F48_0_2 a⟩] c48_0_71) (.seq (.region r48_74 [] (tO [2, 4, 11, 12, 14, 15, 16, 17, 105, 106])) (.seq (.seq (.region r48_77 [] (tO [2, 4, 11, 12, 14, 16, 17, 105, 106, 114, 115])) (.block 4 (.loop td48_79 [⟨p48_0_11, F48_0_6 b⟩] c48_0_79))) (.seq (.region r48_106 [] (tO [2, 4, 11, 12, 14, 24, 25, 105, 106])) (.seq (.seq (.region r48_109 [] (tO [2, 4, 11, 12, 14, 24, 25, 105, 106, 163])) (.cond (.tmp 163) (.seq (.region r48_112 [] (tO [2, 3])) .ret) .skip)) (.region r48_113 [] (tO [2, 4, 11, 12, 105, 106])))))))) (.region r48_114 [] (tO [2, 4, 11, 12, 105, 106])))))
def c48_0_64 : MCode := c48_0_64g J48_0_2 L48_0_6
theorem g48_0_64 : c48_0_64.Good Pg E48_0 sh48 := ⟨trivial, ⟨⟨trivial, trivial⟩, ⟨⟨⟨g48_0_71, m48_0_2, trivial⟩, ⟨trivial, ⟨⟨trivial, ⟨g48_0_79, m48_0_6, trivial⟩⟩, ⟨trivial, ⟨⟨trivial, ⟨⟨trivial, trivial⟩, trivial⟩⟩, trivial⟩⟩⟩⟩⟩, trivial⟩⟩⟩
def S48_0_7g (j : TJ48_0_2) (l : TL48_0_6) (m : Tf134_0) (o : Tf135_0) (p : Tf136_0) (α : Type) (q r s t w z A B C a b c d e : Int) (kn : I5 (Op α)) (k1 : Int -> Op α) (k2 : Int -> Bool -> I4 (Op α)) : Op α :=
 cK (decide (a < 2))
 (j α q r s t a
 (fun D F => l α D F w z A B C
 (fun L M G H => o α G
 (fun I => p α H
 (fun J => m α I J
 (fun g h i => cK (i != 0)
 (k1 i)
 (cK (a == 1)
 (kn (w64 (a + 1)) b c g h)
 (cK (a == 0)
 (kn (w64 (a + 1)) g h d e)
 (none))))))) 0 ([] : Rows) ([] : Rows)))
 (k2 a (decide (a < 2)) b c d e)
def S48_0_7 (α : Type) (a b c d e g h i j l m o p q : Int) (kn : I5 (Op α)) (k1 : Int -> Op α) (k2 : Int -> Bool -> I4 (Op α)) : Op α := S48_0_7g J48_0_2 L48_0_6 f134_0 f135_0 f136_0 α a b c d e g h i j l m o p q kn k1 k2
def R48_0_7 (α : Type) (a b c d e g h i j : Int) (k1 : Int -> Op α) (k2 : Int -> Bool -> I4 (Op α)) : Nat -> I5 (Op α)
 | 0, _, _, _, _, _ => none
 | n + 1, l, m, o, p, q => S48_0_7 α a b c d e g h i j l m o p q (R48_0_7 α a b c d e g h i j k1 k2 n) k1 k2
def L48_0_7 (α : Type) (a b c d e g h i j : Int) (k1 : Int -> Op α) (k2 : Int -> Bool -> I4 (Op α)) (l m o p q : Int) : Op α := R48_0_7 α a b c d e g h i j k1 k2 fuel l m o p q
abbrev TL48_0_7 : Type 1 := (α : Type) -> Int -> Int -> Int -> Int -> Int -> Int -> Int -> Int -> Int -> (Int -> Op α) -> (Int -> Bool -> I4 (Op α)) -> I5 (Op α)
def F48_0_7 (v : TL48_0_7) (α : Type) (K : KT α) : Int -> Int -> Int -> Int -> Int -> BA -> Int -> Int -> Int -> Int -> Int -> Int -> Int -> Int -> Int -> Int -> Int -> Int -> BA -> I11 (Op α) := fun b c d e m o p q r s t w z A B g h i C D F G H I J L M N j l => v α b c d e g h i j l (fun a => u48_0_3 (K .ret) a (⟨#[]⟩ : BA) 0 0 0 0 0 0 0 0 0) (fun a O P Q R T => u48_0_4 (K (.exit 2)) b c d e a O o p q r s t w z A B g h i C D F G H I P Q R T j l) m J L M N
theorem r48_0_7g (U : Tf124_0) (V : Tf125_0) (W : Tf126_0) (X : Tf127_0) (Y : Tf128_0) (Z : Tf133_0) (a0 : Tf131_0) (a1 : Tf132_0) (O : Tf135_0) (P : Tf136_0) (Q : Tf134_0) (R : TJ48_0_2) (T : TL48_0_6) (α : Type) (K : KT α) (Kn : SK α) (a b c d e : Int) (r : BA) (s t w z A B C D F g h i : Int) (G : BA) (H I J L M j l m o p q : Int) : u48_0_12 (fun σ => runM Pg (E48_0g U V W X Y Z a0 a1 O P Q) sh48 (c48_0_64g R T) (thenK (fun σ => tidyK td48_64 σ Kn) K) σ) a b c d e r s t w z A B C D F g h i G H I J L M j l m o p q = S48_0_7g R T Q O P α a b c d g h i p q e j l m o (fun e j l m o => u48_0_12 Kn a b c d e r s t w z A B C D F g h i G H I J L M j l m o p q) (fun N => u48_0_3 (K .ret) N (⟨#[]⟩ : BA) 0 0 0 0 0 0 0 0 0) (fun N a2 a3 a4 a5 a6 => u48_0_4 (K (.exit 2)) a b c d N a2 r s t w z A B C D F g h i G H I J L M a3 a4 a5 a6 p q) := by kernel_rfl
theorem r48_0_7 (α : Type) (K : KT α) (Kn : SK α) (a b c d e : Int) (r : BA) (s t w z A B C D F g h i : Int) (G : BA) (H I J L M j l m o p q : Int) : u48_0_12 (fun σ => runM Pg E48_0 sh48 c48_0_64 (thenK (fun σ => tidyK td48_64 σ Kn) K) σ) a b c d e r s t w z A B C D F g h i G H I J L M j l m o p q = S48_0_7 α a b c d g h i p q e j l m o (fun e j l m o => u48_0_12 Kn a b c d e r s t w z A B C D F g h i G H I J L M j l m o p q) (fun N => u48_0_3 (K .ret) N (⟨#[]⟩ : BA) 0 0 0 0 0 0 0 0 0) (fun N O P Q R T => u48_0_4 (K (.exit 2)) a b c d N O r s t w z A B C D F g h i G H I J L M P Q R T p q) := r48_0_7g f124_0 f125_0 f126_0 f127_0 f128_0 f133_0 f131_0 f132_0 f135_0 f136_0 f134_0 J48_0_2 L48_0_6 α K Kn a b c d e r s t w z A B C D F g h i G H I J L M j l m o p q
theorem t48_0_7 (α : Type) (K : KT α) : ∀ (n : Nat) (a b c d l : Int) (s : BA) (t w z A B C D F G e g h : Int) (H : BA) (I J L M N m o p q i j : Int), R48_0_7 α a b c d e g h i j (fun r => u48_0_3 (K .ret) r (⟨#[]⟩ : BA) 0 0 0 0 0 0 0 0 0) (fun r O P Q R T => u48_0_4 (K (.exit 2)) a b c d r O s t w z A B C D F G e g h H I J L M N P Q R T i j) n l m o p q = u48_0_12 (loopT (runM Pg E48_0 sh48 c48_0_64) td48_64 K n) a b c d l s t w z A B C D F G e g h H I J L M N m o p q i j := by
 intro n
 induction n with
 | zero => intros; rfl
 | succ n ih => intro a b c d l s t w z A B C D F G e g h H I J L M N m o p q i j; exact (congrArg (fun kn => S48_0_7 α a b c d e g h i j l m o p q kn (fun r => u48_0_3 (K .ret) r (⟨#[]⟩ : BA) 0 0 0 0 0 0 0 0 0) (fun r O P Q R T => u48_0_4 (K (.exit 2)) a b c d r O s t w z A B C D F G e g h H I J L M N P Q R T i j)) (funext fun l => funext fun m => funext fun o => funext fun p => funext fun q => ih a b c d l s t w z A B C D F G e g h H I J L M N m o p q i j)).trans (r48_0_7 α K (loopT (runM Pg E48_0 sh48 c48_0_64) td48_64 K n) a b c d l s t w z A B C D F G e g h H I J L M N m o p q i j).symm
theorem m48_0_7 : ∀ (α : Type) (K : KT α), F48_0_7 L48_0_7 α K = p48_0_12.unc fun σ => loopT (runM Pg E48_0 sh48 c48_0_64) td48_64 K fuel σ := fun α K => by funext a b c d e g h i j l m o p q r s t w z A B C D F G H I J L M; exact t48_0_7 α K fuel a b c d e g h i j l m o p q r s t w z A B C D F G H I J L M
def c48_0_16g : MCode := (.region r48_17 [] (tO [1, 2, 4, 6, 43, 44]))
def c48_0_16 : MCode := c48_0_16g
theorem g48_0_16 : c48_0_16.Good Pg E48_0 sh48 := trivial
abbrev TJ48_0_0 : Type 1 := (α : Type) -> Int -> Int -> Int -> Int -> Int -> (Int -> Op α) -> Op α
def J48_0_0g (α : Type) (b c d e a : Int) (k1 : Int -> Op α) : Op α :=
 cK (a == 3)
 (k1 e)
 (cK (a == 2)
 (k1 d)
 (cK (a == 1)
 (k1 c)
 (cK (a == 0)
 (k1 b)
 (none))))
def J48_0_0 (α : Type) (a b c d e : Int) (k1 : Int -> Op α) : Op α := J48_0_0g α a b c d e k1
def F48_0_0 (v : TJ48_0_0) (α : Type) (K : KT α) : Int -> Int -> Int -> Int -> Int -> Bool -> BA -> Int -> Int -> Int -> Int -> Int -> Int -> Int -> Int -> Int -> Int -> Int -> Int -> Int -> Int -> Int -> Int -> Int -> Int -> BA -> I12 (Op α) := fun a b c d e W g h i j l m o p q r s t w z A B C D F G H I J L M N O P Q R T U => v α a b c d e (fun V => u48_0_1 (K .normal) V a b c d e g h i j l m o p q r s t w z A B C D F G H I J L M N O P Q R T U)
theorem m48_0_0g (a : Tf124_0) (b : Tf125_0) (c : Tf126_0) (d : Tf127_0) (e : Tf128_0) (g : Tf133_0) (h : Tf131_0) (i : Tf132_0) (j : Tf135_0) (l : Tf136_0) (m : Tf134_0) (α : Type) (K : KT α) : F48_0_0 (J48_0_0g ) α K = p48_0_0.unc fun σ => runM Pg (E48_0g a b c d e g h i j l m) sh48 (c48_0_16g ) K σ := by kernel_rfl
theorem m48_0_0 : ∀ (α : Type) (K : KT α), F48_0_0 J48_0_0 α K = p48_0_0.unc fun σ => runM Pg E48_0 sh48 c48_0_16 K σ := m48_0_0g f124_0 f125_0 f126_0 f127_0 f128_0 f133_0 f131_0 f132_0 f135_0 f136_0 f134_0
def c48_0_9g (a : TJ48_0_0) : MCode := (.seq (.region r48_11 [] (tO [1, 2, 4, 43, 44, 45])) (.seq (.cond (.tmp 45) .skip (.exit 0)) (.seq (.block 1 (.seq (.mark [⟨p48_0_0, F48_0_0 a⟩] c48_0_16) (.seq (.region r48_19 [] (tO [1, 2, 4, 6, 43, 44, 48])) (.cond (.tmp 48) (.seq (.region r48_22 [] (tO [2, 3])) .ret) .skip)))) (.region r48_23 [] (tO [1, 2, 4, 43, 44])))))
def c48_0_9 : MCode := c48_0_9g J48_0_0
theorem g48_0_9 : c48_0_9.Good Pg E48_0 sh48 := ⟨trivial, ⟨⟨trivial, trivial⟩, ⟨⟨⟨g48_0_16, m48_0_0, trivial⟩, ⟨trivial, ⟨⟨trivial, trivial⟩, trivial⟩⟩⟩, trivial⟩⟩⟩
def S48_0_1g (c : TJ48_0_0) (α : Type) (d e g h a : Int) (kn : Int -> Op α) (k1 : Int -> Op α) (k2 : Int -> Bool -> Op α) : Op α :=
 cK (decide (a < 4))
 (c α d e g h a
 (fun b => cK (b != 0)
 (k1 b)
 (kn (w64 (a + 1)))))
 (k2 a (decide (a < 4)))
def S48_0_1 (α : Type) (a b c d e : Int) (kn : Int -> Op α) (k1 : Int -> Op α) (k2 : Int -> Bool -> Op α) : Op α := S48_0_1g J48_0_0 α a b c d e kn k1 k2
def R48_0_1 (α : Type) (a b c d : Int) (k1 : Int -> Op α) (k2 : Int -> Bool -> Op α) : Nat -> Int -> Op α
 | 0, _ => none
 | n + 1, e => S48_0_1 α a b c d e (R48_0_1 α a b c d k1 k2 n) k1 k2
def L48_0_1 (α : Type) (a b c d : Int) (k1 : Int -> Op α) (k2 : Int -> Bool -> Op α) (e : Int) : Op α := R48_0_1 α a b c d k1 k2 fuel e
abbrev TL48_0_1 : Type 1 := (α : Type) -> Int -> Int -> Int -> Int -> (Int -> Op α) -> (Int -> Bool -> Op α) -> Int -> Op α
def F48_0_1 (v : TL48_0_1) (α : Type) (K : KT α) : Int -> Int -> Int -> Int -> Int -> BA -> Int -> Int -> Int -> Int -> Int -> Int -> Int -> Int -> Int -> Int -> Int -> Int -> Int -> Int -> Int -> Int -> Int -> Int -> BA -> I12 (Op α) := fun b c d e g h i j l m o p q r s t w z A B C D F G H I J L M N O P Q R T U V => v α b c d e (fun a => u48_0_3 (K .ret) a (⟨#[]⟩ : BA) 0 0 0 0 0 0 0 0 0) (fun a W => u48_0_0 (K (.exit 0)) b c d e a W h i j l m o p q r s t w z A B C D F G H I J L M N O P Q R T U V) g
theorem r48_0_1g (X : Tf124_0) (Y : Tf125_0) (Z : Tf126_0) (a0 : Tf127_0) (a1 : Tf128_0) (a2 : Tf133_0) (a3 : Tf131_0) (a4 : Tf132_0) (a5 : Tf135_0) (a6 : Tf136_0) (a7 : Tf134_0) (W : TJ48_0_0) (α : Type) (K : KT α) (Kn : SK α) (a b c d e : Int) (g : BA) (h i j l m o p q r s t w z A B C D F : Int) (G : BA) (H I J L M N O P Q R T U : Int) : u48_0_2 (fun σ => runM Pg (E48_0g X Y Z a0 a1 a2 a3 a4 a5 a6 a7) sh48 (c48_0_9g W) (thenK (fun σ => tidyK td48_9 σ Kn) K) σ) a b c d e g h i j l m o p q r s t w z A B C D F G H I J L M N O P Q R T U = S48_0_1g W α a b c d e (fun e => u48_0_2 Kn a b c d e g h i j l m o p q r s t w z A B C D F G H I J L M N O P Q R T U) (fun V => u48_0_3 (K .ret) V (⟨#[]⟩ : BA) 0 0 0 0 0 0 0 0 0) (fun V a8 => u48_0_0 (K (.exit 0)) a b c d V a8 g h i j l m o p q r s t w z A B C D F G H I J L M N O P Q R T U) := by kernel_rfl
theorem r48_0_1 (α : Type) (K : KT α) (Kn : SK α) (a b c d e : Int) (g : BA) (h i j l m o p q r s t w z A B C D F : Int) (G : BA) (H I J L M N O P Q R T U : Int) : u48_0_2 (fun σ => runM Pg E48_0 sh48 c48_0_9 (thenK (fun σ => tidyK td48_9 σ Kn) K) σ) a b c d e g h i j l m o p q r s t w z A B C D F G H I J L M N O P Q R T U = S48_0_1 α a b c d e (fun e => u48_0_2 Kn a b c d e g h i j l m o p q r s t w z A B C D F G H I J L M N O P Q R T U) (fun V => u48_0_3 (K .ret) V (⟨#[]⟩ : BA) 0 0 0 0 0 0 0 0 0) (fun V W => u48_0_0 (K (.exit 0)) a b c d V W g h i j l m o p q r s t w z A B C D F G H I J L M N O P Q R T U) := r48_0_1g f124_0 f125_0 f126_0 f127_0 f128_0 f133_0 f131_0 f132_0 f135_0 f136_0 f134_0 J48_0_0 α K Kn a b c d e g h i j l m o p q r s t w z A B C D F G H I J L M N O P Q R T U
theorem t48_0_1 (α : Type) (K : KT α) : ∀ (n : Nat) (a b c d e : Int) (h : BA) (i j l m o p q r s t w z A B C D F G : Int) (H : BA) (I J L M N O P Q R T U V : Int), R48_0_1 α a b c d (fun g => u48_0_3 (K .ret) g (⟨#[]⟩ : BA) 0 0 0 0 0 0 0 0 0) (fun g W => u48_0_0 (K (.exit 0)) a b c d g W h i j l m o p q r s t w z A B C D F G H I J L M N O P Q R T U V) n e = u48_0_2 (loopT (runM Pg E48_0 sh48 c48_0_9) td48_9 K n) a b c d e h i j l m o p q r s t w z A B C D F G H I J L M N O P Q R T U V := by
 intro n
 induction n with
 | zero => intros; rfl
 | succ n ih => intro a b c d e h i j l m o p q r s t w z A B C D F G H I J L M N O P Q R T U V; exact (congrArg (fun kn => S48_0_1 α a b c d e kn (fun g => u48_0_3 (K .ret) g (⟨#[]⟩ : BA) 0 0 0 0 0 0 0 0 0) (fun g W => u48_0_0 (K (.exit 0)) a b c d g W h i j l m o p q r s t w z A B C D F G H I J L M N O P Q R T U V)) (funext fun e => ih a b c d e h i j l m o p q r s t w z A B C D F G H I J L M N O P Q R T U V)).trans (r48_0_1 α K (loopT (runM Pg E48_0 sh48 c48_0_9) td48_9 K n) a b c d e h i j l m o p q r s t w z A B C D F G H I J L M N O P Q R T U V).symm
theorem m48_0_1 : ∀ (α : Type) (K : KT α), F48_0_1 L48_0_1 α K = p48_0_2.unc fun σ => loopT (runM Pg E48_0 sh48 c48_0_9) td48_9 K fuel σ := fun α K => by funext a b c d e g h i j l m o p q r s t w z A B C D F G H I J L M N O P Q R T U; exact t48_0_1 α K fuel a b c d e g h i j l m o p q r s t w z A B C D F G H I J L M N O P Q R T U
abbrev Tf48_0 : Type 1 := (α : Type) -> BA -> Int -> Int -> Int -> Int -> Int -> Int -> Int -> Int -> Int -> Int -> Int -> Int -> Int -> Int -> Int -> Int -> Int -> Int -> (BA -> I10 (Op α)) -> Op α
def f48_0g (I : TL48_0_1) (J : TL48_0_7) (L : Tf124_0) (d : Tf125_0) (M : Tf126_0) (e : Tf127_0) (g : Tf128_0) (N : Tf133_0) (α : Type) (h : BA) (i j l m o p q r s t w z A B C b a c : Int) (k1 : BA -> I10 (Op α)) : Op α :=
 L α h i j l
 (fun O => d α m o p q r s
 (fun P => d α t w z A B C
 (fun Q => M α b a c
 (fun R => I α O P Q R
 (fun T => k1 (⟨#[]⟩ : BA) 0 0 0 0 0 0 0 0 0 T)
 (fun b2 b3 => cK (a == 0)
 (k1 (⟨#[]⟩ : BA) 0 0 0 0 0 0 0 0 0 9)
 (e α m o p q r s
 (fun U V W X D => cK (D != 0)
 (k1 (⟨#[]⟩ : BA) 0 0 0 0 0 0 0 0 0 D)
 (e α t w z A B C
 (fun Y Z a0 a1 F => cK (F != 0)
 (k1 (⟨#[]⟩ : BA) 0 0 0 0 0 0 0 0 0 F)
 (g α U V b a c
 (fun a2 a3 => g α Y Z b a c
 (fun a4 a5 => N α a2 a3 a4 a5
 (fun G H a6 => cK (!a6)
 (k1 (⟨#[]⟩ : BA) 0 0 0 0 0 0 0 0 0 14)
 (J α W X a0 a1 b a c G H
 (fun a7 => k1 (⟨#[]⟩ : BA) 0 0 0 0 0 0 0 0 0 a7)
 (fun b4 b5 a8 a9 b0 b1 => k1 h i j l G H a8 a9 b0 b1 0) 0 0 0 0 0)))))))))) 0))))
def f48_0 (α : Type) (a : BA) (b c d e g h i j l m o p q r s t w z : Int) (k1 : BA -> I10 (Op α)) : Op α := f48_0g L48_0_1 L48_0_7 f124_0 f125_0 f126_0 f127_0 f128_0 f133_0 α a b c d e g h i j l m o p q r s t w z k1
def pa48_0 : PT (List DV) := pA [pV true [dS, (dI .i64), (dI .i64), (dI .i64), (dI .i64), (dI .i64), (dI .i64), (dI .i64), (dI .i64), (dI .i64), (dI .i64), (dI .i64), (dI .i64), (dI .i64), (dI .i64), (dI .i64), (dI .i64), (dI .i64), (dI .i64)]]
def Fn48_0 (v : Tf48_0) (α : Type) (k : RT α) : BA -> I18 (Op α) := fun a b c d e g h i j l m o p q r s t w z => v α a b c d e g h i j l m o p q r s t w z (fun A B C D F G H I J L M => ur48_0_0 k A B C D F G H I J L M)
def cm48_0g (a : TL48_0_1) (b : TL48_0_7) : MCode := (.seq (.region r48_2 [] (tO [1, 2])) (.seq (.region r48_4 [] (tO [1, 2, 4])) (.seq (.seq (.region r48_7 [(6, 8), (6, 11), (9, 11), (6, 13), (9, 13), (12, 13)] (tO [1, 2, 4, 43, 44])) (.block 0 (.loop td48_9 [⟨p48_0_2, F48_0_1 a⟩] c48_0_9))) (.seq (.seq (.region r48_26 [] (tO [1, 2, 4, 54])) (.cond (.tmp 54) (.seq (.region r48_29 [] (tO [2, 3])) .ret) .skip)) (.seq (.region r48_31 [] (tO [1, 2, 4, 7, 8])) (.seq (.seq (.region r48_34 [] (tO [1, 2, 4, 7, 8, 63])) (.cond (.tmp 63) (.seq (.region r48_37 [] (tO [2, 3])) .ret) .skip)) (.seq (.region r48_39 [] (tO [1, 2, 4, 7, 8, 9])) (.seq (.seq (.region r48_42 [] (tO [1, 2, 4, 7, 8, 9, 73])) (.cond (.tmp 73) (.seq (.region r48_45 [] (tO [2, 3])) .ret) .skip)) (.seq (.region r48_47 [] (tO [1, 2, 4, 7, 9, 10])) (.seq (.region r48_49 [] (tO [2, 4, 7, 9, 10, 11])) (.seq (.region r48_51 [(3, 6), (2, 12), (3, 12), (6, 12), (7, 12), (8, 12)] (tO [2, 4, 7, 9, 11, 12, 13])) (.seq (.seq (.region r48_54 [] (tO [2, 4, 7, 9, 11, 12, 97])) (.cond (.tmp 97) (.seq (.region r48_57 [] (tO [2, 3])) .ret) .skip)) (.seq (.region r48_59 [] (tO [2, 4, 7, 9, 11, 12])) (.seq (.seq (.region r48_62 [] (tO [2, 4, 11, 12, 105, 106])) (.block 2 (.loop td48_64 [⟨p48_0_12, F48_0_7 b⟩] c48_0_64))) (.seq (.region r48_116 [] (tO [2, 3])) .ret)))))))))))))))
def cm48_0 : MCode := cm48_0g L48_0_1 L48_0_7
theorem gm48_0 : cm48_0.Good Pg E48_0 sh48 := ⟨trivial, ⟨trivial, ⟨⟨trivial, ⟨g48_0_9, m48_0_1, trivial⟩⟩, ⟨⟨trivial, ⟨⟨trivial, trivial⟩, trivial⟩⟩, ⟨trivial, ⟨⟨trivial, ⟨⟨trivial, trivial⟩, trivial⟩⟩, ⟨trivial, ⟨⟨trivial, ⟨⟨trivial, trivial⟩, trivial⟩⟩, ⟨trivial, ⟨trivial, ⟨trivial, ⟨⟨trivial, ⟨⟨trivial, trivial⟩, trivial⟩⟩, ⟨trivial, ⟨⟨trivial, ⟨g48_0_64, m48_0_7, trivial⟩⟩, ⟨trivial, trivial⟩⟩⟩⟩⟩⟩⟩⟩⟩⟩⟩⟩⟩⟩⟩
theorem fm48_0g (a : Tf124_0) (b : Tf125_0) (c : Tf126_0) (d : Tf127_0) (e : Tf128_0) (g : Tf133_0) (j : Tf131_0) (l : Tf132_0) (m : Tf135_0) (o : Tf136_0) (p : Tf134_0) (h : TL48_0_1) (i : TL48_0_7) (α : Type) (k : RT α) : Fn48_0 (f48_0g h i a b c d e g) α k = pa48_0.unc fun ds => fnM Pg (E48_0g a b c d e g j l m o p) sh48 (cm48_0g h i) rs48 k ds := by kernel_rfl
theorem fm48_0 : ∀ (α : Type) (k : RT α), Fn48_0 f48_0 α k = pa48_0.unc fun ds => fnM Pg E48_0 sh48 cm48_0 rs48 k ds := fm48_0g f124_0 f125_0 f126_0 f127_0 f128_0 f133_0 f131_0 f132_0 f135_0 f136_0 f134_0 L48_0_1 L48_0_7
theorem is48 : FnIs Pg 48 nt48 tr48 tl48 cm48_0.erase rs48 := ⟨Tryz.f48, Tryz.func48, rfl, by kernel_rfl, by kernel_rfl, by kernel_rfl⟩
theorem io48_0 : InstOk Pg 48 nt48 ⟨pa48_0, Fn48_0 f48_0⟩ := inst_ok eo48_0 followsTry is48 ⟨⟨sh48, cm48_0, by kernel_rfl, gm48_0, fm48_0⟩⟩
abbrev nt274 : Nat := 12
def sh274 : SG := [(4, iT)]
def r274_2 : LA := [oO 1 (.box (.tmp 0)), mK 2 0]
def r274_5 : LA := [fA 3 9 1, lD 4 3, oO 5 (.call 215 [(.tmp 4), (kI 1), (kI 1000)]), oO 6 (.pure (oB (.unOp .not 4 (.tmp 5)) 4)), oM 7 6, oG 8 (.faddr 0 (.tmp 1)) 7 false, oG 9 (.aslice 1 9 (.tmp 8)) 7 false, oG 10 (.call 311 [(.tmp 9), (.func 312)]) 7 false, oO 11 (.pick (.tmp 7) (.const (.bool true)) (.tmp 10))]
def r274_8 : LA := [mK 2 2]
def r274_10 : LA := [mK 2 0]
def tr274 : TG := [(0, ⟨[1], true, [], [1]⟩), tT 1 [11], tT 2 [2], tT 3 [2]]
def tl274 : TG := []
def rs274 : List AResV := [.tmp 2]
def pr274_0_0 : PT (List RV) := pRs [wI]
def ur274_0_0 {β : Type} (g : List RV -> β) : Int -> β := pr274_0_0.unc g
def E274_0g (a : Tf215_0) (b : Tf311_0) : EnvK := EnvK.of [⟨215, nt215, [⟨pa215_0, Fn215_0 a⟩]⟩, ⟨311, nt311, [⟨pa311_0, Fn311_0 b⟩]⟩] noSeq
def E274_0 : EnvK := E274_0g f215_0 f311_0
theorem eo274_0 : E274_0.Ok Pg := EnvK.of_ok noSeq_ok ⟨⟨io215_0, trivial⟩, ⟨io311_0, trivial⟩, trivial⟩
abbrev Tf274_0 : Type 1 := (α : Type) -> Int -> Int -> Int -> Int -> Int -> Int -> Int -> Int -> Int -> Int -> (Int -> Op α) -> Op α
def f274_0g (a : Tf215_0) (b : Tf311_0) (α : Type) (c d e g h i j l m o : Int) (k1 : Int -> Op α) : Op α :=
 a α o 1 1000
 (fun p => cK (!p)
 (k1 2)
 (b α [[DC.v (.int .i64 c)], [DC.v (.int .i64 d)], [DC.v (.int .i64 e)], [DC.v (.int .i64 g)], [DC.v (.int .i64 h)], [DC.v (.int .i64 i)], [DC.v (.int .i64 j)], [DC.v (.int .i64 l)], [DC.v (.int .i64 m)]]
 (fun q => cK q
 (k1 2)
 (k1 0))))
def f274_0 (α : Type) (a b c d e g h i j l : Int) (k1 : Int -> Op α) : Op α := f274_0g f215_0 f311_0 α a b c d e g h i j l k1
def pa274_0 : PT (List DV) := pA [pV true [(dI .i64), (dI .i64), (dI .i64), (dI .i64), (dI .i64), (dI .i64), (dI .i64), (dI .i64), (dI .i64), (dI .i64)]]
def Fn274_0 (v : Tf274_0) (α : Type) (k : RT α) : I10 (Op α) := fun a b c d e g h i j l => v α a b c d e g h i j l (fun m => ur274_0_0 k m)
def cm274_0g : MCode := (.seq (.region r274_2 [] (some ⟨[1], true, [], [1]⟩)) (.seq (.seq (.region r274_5 [] (tO [11])) (.cond (.tmp 11) (.seq (.region r274_8 [] (tO [2])) .ret) .skip)) (.seq (.region r274_10 [] (tO [2])) .ret)))
def cm274_0 : MCode := cm274_0g
theorem gm274_0 : cm274_0.Good Pg E274_0 sh274 := ⟨trivial, ⟨⟨trivial, ⟨⟨trivial, trivial⟩, trivial⟩⟩, ⟨trivial, trivial⟩⟩⟩
theorem fm274_0g (a : Tf215_0) (b : Tf311_0) (α : Type) (k : RT α) : Fn274_0 (f274_0g a b) α k = pa274_0.unc fun ds => fnM Pg (E274_0g a b) sh274 (cm274_0g ) rs274 k ds := by kernel_rfl
theorem fm274_0 : ∀ (α : Type) (k : RT α), Fn274_0 f274_0 α k = pa274_0.unc fun ds => fnM Pg E274_0 sh274 cm274_0 rs274 k ds := fm274_0g f215_0 f311_0
theorem is274 : FnIs Pg 274 nt274 tr274 tl274 cm274_0.erase rs274 := ⟨Tryz.f274, Tryz.func274, rfl, by kernel_rfl, by kernel_rfl, by kernel_rfl⟩
theorem io274_0 : InstOk Pg 274 nt274 ⟨pa274_0, Fn274_0 f274_0⟩ := inst_ok eo274_0 followsTry is274 ⟨⟨sh274, cm274_0, by kernel_rfl, gm274_0, fm274_0⟩⟩
abbrev nt217 : Nat := 13
def sh217 : SG := [(6, iS 10), (11, iS 6)]
def r217_2 : LA := [oO 2 (.box (.tmp 0)), oO 3 (.box (.tmp 1)), mK 4 0]
def r217_5 : LA := [lA 6 10 2, oO 7 (.call 274 [.tmp 6]), oM 5 7]
def r217_7 : LA := [oM 8 5, oO 9 (.bin .neq 28 (.tmp 8) (kI 0))]
def r217_10 : LA := [oM 10 5, oM 4 10]
def r217_12 : LA := [lA 11 6 3, oO 12 (.call 125 [.tmp 11]), oM 4 12]
def tr217 : TG := [tT 0 [2, 3], tT 1 [3, 5], tT 2 [3, 5, 9], tT 3 [4], tT 4 [4]]
def tl217 : TG := []
def rs217 : List AResV := [.tmp 4]
def pr217_0_0 : PT (List RV) := pRs [wI]
def ur217_0_0 {β : Type} (g : List RV -> β) : Int -> β := pr217_0_0.unc g
def E217_0g (a : Tf274_0) (b : Tf125_0) : EnvK := EnvK.of [⟨274, nt274, [⟨pa274_0, Fn274_0 a⟩]⟩, ⟨125, nt125, [⟨pa125_0, Fn125_0 b⟩]⟩] noSeq
def E217_0 : EnvK := E217_0g f274_0 f125_0
theorem eo217_0 : E217_0.Ok Pg := EnvK.of_ok noSeq_ok ⟨⟨io274_0, trivial⟩, ⟨io125_0, trivial⟩, trivial⟩
abbrev Tf217_0 : Type 1 := (α : Type) -> Int -> Int -> Int -> Int -> Int -> Int -> Int -> Int -> Int -> Int -> Int -> Int -> Int -> Int -> Int -> Int -> (Int -> Op α) -> Op α
def f217_0g (b : Tf125_0) (c : Tf274_0) (α : Type) (d e g h i j l m o p q r s t w z : Int) (k1 : Int -> Op α) : Op α :=
 c α d e g h i j l m o p
 (fun a => cK (a != 0)
 (k1 a)
 (b α q r s t w z
 (fun A => k1 A)))
def f217_0 (α : Type) (a b c d e g h i j l m o p q r s : Int) (k1 : Int -> Op α) : Op α := f217_0g f125_0 f274_0 α a b c d e g h i j l m o p q r s k1
def pa217_0 : PT (List DV) := pA [pV true [(dI .i64), (dI .i64), (dI .i64), (dI .i64), (dI .i64), (dI .i64), (dI .i64), (dI .i64), (dI .i64), (dI .i64)], pV true [(dI .i64), (dI .i64), (dI .i64), (dI .i64), (dI .i64), (dI .i64)]]
def Fn217_0 (v : Tf217_0) (α : Type) (k : RT α) : I16 (Op α) := fun a b c d e g h i j l m o p q r s => v α a b c d e g h i j l m o p q r s (fun t => ur217_0_0 k t)
def cm217_0g : MCode := (.seq (.region r217_2 [] (tO [2, 3])) (.seq (.seq (.region r217_5 [] (tO [3, 5])) (.seq (.region r217_7 [] (tO [3, 5, 9])) (.cond (.tmp 9) (.seq (.region r217_10 [] (tO [4])) .ret) .skip))) (.seq (.region r217_12 [] (tO [4])) .ret)))
def cm217_0 : MCode := cm217_0g
theorem gm217_0 : cm217_0.Good Pg E217_0 sh217 := ⟨trivial, ⟨⟨trivial, ⟨trivial, ⟨⟨trivial, trivial⟩, trivial⟩⟩⟩, ⟨trivial, trivial⟩⟩⟩
theorem fm217_0g (a : Tf274_0) (b : Tf125_0) (α : Type) (k : RT α) : Fn217_0 (f217_0g b a) α k = pa217_0.unc fun ds => fnM Pg (E217_0g a b) sh217 (cm217_0g ) rs217 k ds := by kernel_rfl
theorem fm217_0 : ∀ (α : Type) (k : RT α), Fn217_0 f217_0 α k = pa217_0.unc fun ds => fnM Pg E217_0 sh217 cm217_0 rs217 k ds := fm217_0g f274_0 f125_0
theorem is217 : FnIs Pg 217 nt217 tr217 tl217 cm217_0.erase rs217 := ⟨Tryz.f217, Tryz.func217, rfl, by kernel_rfl, by kernel_rfl, by kernel_rfl⟩
theorem io217_0 : InstOk Pg 217 nt217 ⟨pa217_0, Fn217_0 f217_0⟩ := inst_ok eo217_0 followsTry is217 ⟨⟨sh217, cm217_0, by kernel_rfl, gm217_0, fm217_0⟩⟩
abbrev nt123 : Nat := 122
def sh123 : SG := [(17, iS 10), (18, iS 6), (25, iS 9), (53, iT), (59, iT), (66, iT), (72, iT), (79, iT), (81, iT), (84, iT), (86, iT), (90, iT), (92, iT), (110, iT), (114, iS 9), (115, iS 6), (117, iT)]
def r123_2 : LA := [oO 2 (.box (.tmp 0)), oO 3 (.box (.tmp 1)), oO 4 (.alloc (zI 6)), mK 5 0]
def r123_5 : LA := [lA 17 10 2, lA 18 6 3, oO 19 (.call 217 [(.tmp 17), (.tmp 18)]), oM 6 19]
def r123_7 : LA := [oM 20 6, oO 21 (.bin .neq 28 (.tmp 20) (kI 0))]
def r123_10 : LA := [oO 22 (.build (zI 6) []), oM 23 6, sD 6 4 22, oM 5 23]
def r123_12 : LA := [oO 7 (.alloc (zI 9))]
def r123_14 : LA := [fA 24 0 2, lA 25 9 24, oO 8 (.alloc (zI 9)), sD 9 8 25]
def r123_17 : LA := [mK 26 0]
def td123_19 : OT := (tO [2, 3, 4, 7, 8, 26])
def r123_21 : LA := [bK 27 .lss 26 3]
def r123_27 : LA := [oM 28 26, oM 9 28]
def r123_29 : LA := [mK 29 0]
def td123_31 : OT := (tO [2, 3, 4, 7, 8, 9, 26, 29])
def r123_33 : LA := [bK 30 .lss 29 3]
def r123_39 : LA := [oM 31 29, oM 10 31]
def r123_41 : LA := [oM 32 10, bK 33 .add 32 1, bK 34 .rem 33 3, oM 35 10, bK 36 .add 35 2, bK 37 .rem 36 3, oM 38 9, bK 39 .add 38 1, bK 40 .rem 39 3, oM 41 9, bK 42 .add 41 2, bK 43 .rem 42 3, oM 11 34, oM 12 37, oM 13 40, oM 14 43]
def r123_42 : LA := [oM 44 9, oO 45 (.bin .mul 3 (kI 3) (.tmp 44)), oM 46 10, bT 47 .add 45 46, oM 48 11, oO 49 (.bin .mul 3 (kI 3) (.tmp 48)), oM 50 13, bT 51 .add 49 50, oO 52 (.iaddr 1 (some 9) (.tmp 8) (.tmp 51)), lD 53 52, oM 54 12, oO 55 (.bin .mul 3 (kI 3) (.tmp 54)), oM 56 14, bT 57 .add 55 56, oO 58 (.iaddr 1 (some 9) (.tmp 8) (.tmp 57)), lD 59 58, bT 60 .mul 53 59, oM 61 11, oO 62 (.bin .mul 3 (kI 3) (.tmp 61)), oM 63 14, bT 64 .add 62 63, oO 65 (.iaddr 1 (some 9) (.tmp 8) (.tmp 64)), lD 66 65, oM 67 12, oO 68 (.bin .mul 3 (kI 3) (.tmp 67)), oM 69 13, bT 70 .add 68 69, oO 71 (.iaddr 1 (some 9) (.tmp 8) (.tmp 70)), lD 72 71, bT 73 .mul 66 72, bT 74 .sub 60 73, oO 75 (.iaddr 1 (some 9) (.tmp 7) (.tmp 47)), sD 1 75 74]
def r123_43 : LA := [bK 76 .add 29 1, oM 29 76]
def r123_44 : LA := [bK 77 .add 26 1, oM 26 77]
def r123_46 : LA := [oO 78 (.iaddr 1 (some 9) (.tmp 8) (kI 0)), lD 79 78, oO 80 (.iaddr 1 (some 9) (.tmp 7) (kI 0)), lD 81 80, bT 82 .mul 79 81, oO 83 (.iaddr 1 (some 9) (.tmp 8) (kI 1)), lD 84 83, oO 85 (.iaddr 1 (some 9) (.tmp 7) (kI 3)), lD 86 85, bT 87 .mul 84 86, bT 88 .add 82 87, oO 89 (.iaddr 1 (some 9) (.tmp 8) (kI 2)), lD 90 89, oO 91 (.iaddr 1 (some 9) (.tmp 7) (kI 6)), lD 92 91, bT 93 .mul 90 92, bT 94 .add 88 93, oM 15 94]
def r123_50 : LA := [oM 96 15, bK 97 .eql 96 0, oM 95 97]
def r123_53 : LA := [oO 98 (.build (zI 6) []), sD 6 4 98, mK 5 28]
def r123_55 : LA := [oM 100 15, bK 101 .lss 100 0, oM 99 101]
def r123_58 : LA := [oM 102 15, oO 103 (.pure (oB (.unOp .neg 3 (.tmp 102)) 3)), oM 15 103]
def r123_60 : LA := [mK 104 0]
def td123_62 : OT := (tO [2, 3, 4, 7, 15, 104])
def r123_64 : LA := [bK 105 .lss 104 9]
def r123_70 : LA := [oM 106 104, oM 16 106]
def r123_71 : LA := [oM 107 16, oM 108 16, oO 109 (.iaddr 1 (some 9) (.tmp 7) (.tmp 108)), lD 110 109, oO 111 (.pure (oB (.unOp .neg 3 (.tmp 110)) 3)), oO 112 (.iaddr 1 (some 9) (.tmp 7) (.tmp 107)), sD 1 112 111]
def r123_72 : LA := [bK 113 .add 104 1, oM 104 113]
def r123_74 : LA := [lA 114 9 7, lA 115 6 3, fA 116 9 2, lD 117 116, oM 118 15, oO 119 (.call 218 [(.tmp 114), (.tmp 115), (.tmp 117), (.tmp 118)]), oO 120 (.extract 0 (.tmp 119)), oO 121 (.extract 1 (.tmp 119)), sD 6 4 120, oM 5 121]
def tr123 : TG := [tT 0 [2, 3, 4], tT 1 [2, 3, 4, 6], tT 2 [2, 3, 4, 6, 21], tT 3 [4, 5], tT 4 [2, 3, 4, 7], tT 5 [2, 3, 4, 7, 8], tT 6 [2, 3, 4, 7, 8, 26], tT 7 [2, 3, 4, 7, 8, 26, 27], tT 8 [2, 3, 4, 7, 8, 9, 26], tT 9 [2, 3, 4, 7, 8, 9, 26, 29], tT 10 [2, 3, 4, 7, 8, 9, 26, 29, 30], tT 11 [2, 3, 4, 7, 8, 9, 10, 26, 29], tT 12 [2, 3, 4, 7, 8, 9, 10, 11, 12, 13, 14, 26, 29], tT 13 [2, 3, 4, 7, 8, 9, 26, 29], tT 14 [2, 3, 4, 7, 8, 9, 26, 29], tT 15 [2, 3, 4, 7, 8, 26], tT 16 [2, 3, 4, 7, 15], tT 17 [2, 3, 4, 7, 15, 95], tT 18 [4, 5], tT 19 [2, 3, 4, 7, 15, 99], tT 20 [2, 3, 4, 7, 15], tT 21 [2, 3, 4, 7, 15, 104], tT 22 [2, 3, 4, 7, 15, 104, 105], tT 23 [2, 3, 4, 7, 15, 16, 104], tT 24 [2, 3, 4, 7, 15, 104], tT 25 [2, 3, 4, 7, 15, 104], tT 26 [4, 5]]
def tl123 : TG := [tT 7 [2, 3, 4, 7, 8, 26], tT 10 [2, 3, 4, 7, 8, 9, 26, 29], tT 22 [2, 3, 4, 7, 15, 104]]
def rs123 : List AResV := [.cell 4 true 6, .tmp 5]
def p123_0_0 : PT St := pS [sP 2, sP 3, sP 4, sP 7, sI 15] [eBox 2 (xs 10), eBox 3 (xs 6), eBox 4 (xs 6), eBox 7 (xs 9)]
def u123_0_0 {β : Type} (g : St -> β) : I32 β := p123_0_0.unc g
def p123_0_1 : PT St := pS [sP 4, sI 5] [eBox 4 (xs 6)]
def u123_0_1 {β : Type} (g : St -> β) : I7 β := p123_0_1.unc g
def p123_0_2 : PT St := pS [sP 2, sP 3, sP 4, sP 7, sI 15, sI 104, sl 105 (aV false [(cD dB)])] [eBox 2 (xs 10), eBox 3 (xs 6), eBox 4 (xs 6), eBox 7 (xs 9)]
def u123_0_2 {β : Type} (g : St -> β) : Int -> Int -> Bool -> I31 β := p123_0_2.unc g
def p123_0_3 : PT St := pS [sP 2, sP 3, sP 4, sP 7, sI 15, sl 99 (aV false [(cD dB)])] [eBox 2 (xs 10), eBox 3 (xs 6), eBox 4 (xs 6), eBox 7 (xs 9)]
def u123_0_3 {β : Type} (g : St -> β) : Int -> Bool -> I31 β := p123_0_3.unc g
def pr123_0_0 : PT (List RV) := pRs [pR true [rD (dI .i64), rD (dI .i64), rD (dI .i64), rD (dI .i64), rD (dI .i64), rD (dI .i64)], wI]
def ur123_0_0 {β : Type} (g : List RV -> β) : I7 β := pr123_0_0.unc g
def E123_0g (a : Tf217_0) (b : Tf218_0) : EnvK := EnvK.of [⟨217, nt217, [⟨pa217_0, Fn217_0 a⟩]⟩, ⟨218, nt218, [⟨pa218_0, Fn218_0 b⟩]⟩] noSeq
def E123_0 : EnvK := E123_0g f217_0 f218_0
theorem eo123_0 : E123_0.Ok Pg := EnvK.of_ok noSeq_ok ⟨⟨io217_0, trivial⟩, ⟨io218_0, trivial⟩, trivial⟩
def c123_0_47g : MCode := (.block 4 (.seq (.region r123_50 [] (tO [2, 3, 4, 7, 15, 95])) (.cond (.tmp 95) (.seq (.region r123_53 [] (tO [4, 5])) .ret) (.seq (.region r123_55 [] (tO [2, 3, 4, 7, 15, 99])) (.cond (.tmp 99) (.seq (.region r123_58 [] (tO [2, 3, 4, 7, 15])) (.seq (.region r123_60 [] (tO [2, 3, 4, 7, 15, 104])) (.block 5 (.loopU 10 td123_62 (.seq (.region r123_64 [] (tO [2, 3, 4, 7, 15, 104, 105])) (.seq (.cond (.tmp 105) .skip (.exit 5)) (.seq (.block 6 (.seq (.region r123_70 [] (tO [2, 3, 4, 7, 15, 16, 104])) (.region r123_71 [] (tO [2, 3, 4, 7, 15, 104])))) (.region r123_72 [] (tO [2, 3, 4, 7, 15, 104]))))))))) .skip)))))
def c123_0_47 : MCode := c123_0_47g
theorem g123_0_47 : c123_0_47.Good Pg E123_0 sh123 := ⟨trivial, ⟨⟨trivial, trivial⟩, ⟨trivial, ⟨⟨trivial, ⟨trivial, ⟨⟨trivial, ⟨⟨trivial, trivial⟩, ⟨⟨trivial, trivial⟩, trivial⟩⟩⟩, by decide⟩⟩⟩, trivial⟩⟩⟩⟩
abbrev TJ123_0_0 : Type 1 := (α : Type) -> Int -> Int -> Int -> Int -> Int -> Int -> Int -> Int -> Int -> Int -> (Op α) -> (I10 (Op α)) -> (Bool -> Op α) -> Op α
def J123_0_0g (α : Type) (a b c d e g h i j l : Int) (k1 : Op α) (k2 : I10 (Op α)) (k3 : Bool -> Op α) : Op α :=
 cK (a == 0)
 (k1)
 (cK (decide (a < 0))
 (k2 (w64 (0 - a)) (w64 (0 - b)) (w64 (0 - c)) (w64 (0 - d)) (w64 (0 - e)) (w64 (0 - g)) (w64 (0 - h)) (w64 (0 - i)) (w64 (0 - j)) (w64 (0 - l)))
 (k3 (decide (a < 0))))
def J123_0_0 (α : Type) (a b c d e g h i j l : Int) (k1 : Op α) (k2 : I10 (Op α)) (k3 : Bool -> Op α) : Op α := J123_0_0g α a b c d e g h i j l k1 k2 k3
def F123_0_0 (v : TJ123_0_0) (α : Type) (K : KT α) : I32 (Op α) := fun b c d e g h i j l m o p q r s t w z A B C D F G H I J L M N O P => v α b G H I J L M N O P (u123_0_1 (K .ret) 28 0 0 0 0 0 0) (fun a Q R T U V W X Y Z => u123_0_2 (K .normal) a 9 false c d e g h i j l m o p q r s t w z A B C D F Q R T U V W X Y Z) (fun a => u123_0_3 (K .normal) b a c d e g h i j l m o p q r s t w z A B C D F G H I J L M N O P)
theorem m123_0_0g (a : Tf217_0) (b : Tf218_0) (α : Type) (K : KT α) : F123_0_0 (J123_0_0g ) α K = p123_0_0.unc fun σ => runM Pg (E123_0g a b) sh123 (c123_0_47g ) K σ := by kernel_rfl
theorem m123_0_0 : ∀ (α : Type) (K : KT α), F123_0_0 J123_0_0 α K = p123_0_0.unc fun σ => runM Pg E123_0 sh123 c123_0_47 K σ := m123_0_0g f217_0 f218_0
abbrev Tf123_0 : Type 1 := (α : Type) -> Int -> Int -> Int -> Int -> Int -> Int -> Int -> Int -> Int -> Int -> Int -> Int -> Int -> Int -> Int -> Int -> (I7 (Op α)) -> Op α
def f123_0g (z : TJ123_0_0) (A : Tf217_0) (t : Tf218_0) (α : Type) (h i j a b c d e g l m o p q r s : Int) (k1 : I7 (Op α)) : Op α :=
 A α h i j a b c d e g l m o p q r s
 (fun w => cK (w != 0)
 (k1 0 0 0 0 0 0 w)
 (z α (w64 ((w64 ((w64 (h * (w64 ((w64 (b * g)) - (w64 (c * e)))))) + (w64 (i * (w64 ((w64 (c * d)) - (w64 (a * g)))))))) + (w64 (j * (w64 ((w64 (a * e)) - (w64 (b * d)))))))) (w64 ((w64 (b * g)) - (w64 (c * e)))) (w64 ((w64 (e * j)) - (w64 (g * i)))) (w64 ((w64 (i * c)) - (w64 (j * b)))) (w64 ((w64 (c * d)) - (w64 (a * g)))) (w64 ((w64 (g * h)) - (w64 (d * j)))) (w64 ((w64 (j * a)) - (w64 (h * c)))) (w64 ((w64 (a * e)) - (w64 (b * d)))) (w64 ((w64 (d * i)) - (w64 (e * h)))) (w64 ((w64 (h * b)) - (w64 (i * a))))
 (k1 0 0 0 0 0 0 28)
 (fun B C D F G H I J L M => t α C D F G H I J L M m o p q r s l B
 (fun N O P Q R T U => k1 N O P Q R T U))
 (fun a2 => t α (w64 ((w64 (b * g)) - (w64 (c * e)))) (w64 ((w64 (e * j)) - (w64 (g * i)))) (w64 ((w64 (i * c)) - (w64 (j * b)))) (w64 ((w64 (c * d)) - (w64 (a * g)))) (w64 ((w64 (g * h)) - (w64 (d * j)))) (w64 ((w64 (j * a)) - (w64 (h * c)))) (w64 ((w64 (a * e)) - (w64 (b * d)))) (w64 ((w64 (d * i)) - (w64 (e * h)))) (w64 ((w64 (h * b)) - (w64 (i * a)))) m o p q r s l (w64 ((w64 ((w64 (h * (w64 ((w64 (b * g)) - (w64 (c * e)))))) + (w64 (i * (w64 ((w64 (c * d)) - (w64 (a * g)))))))) + (w64 (j * (w64 ((w64 (a * e)) - (w64 (b * d))))))))
 (fun V W X Y Z a0 a1 => k1 V W X Y Z a0 a1))))
def f123_0 (α : Type) (a b c d e g h i j l m o p q r s : Int) (k1 : I7 (Op α)) : Op α := f123_0g J123_0_0 f217_0 f218_0 α a b c d e g h i j l m o p q r s k1
def pa123_0 : PT (List DV) := pA [pV true [(dI .i64), (dI .i64), (dI .i64), (dI .i64), (dI .i64), (dI .i64), (dI .i64), (dI .i64), (dI .i64), (dI .i64)], pV true [(dI .i64), (dI .i64), (dI .i64), (dI .i64), (dI .i64), (dI .i64)]]
def Fn123_0 (v : Tf123_0) (α : Type) (k : RT α) : I16 (Op α) := fun a b c d e g h i j l m o p q r s => v α a b c d e g h i j l m o p q r s (fun t w z A B C D => ur123_0_0 k t w z A B C D)
def cm123_0g (a : TJ123_0_0) : MCode := (.seq (.region r123_2 [] (tO [2, 3, 4])) (.seq (.seq (.region r123_5 [] (tO [2, 3, 4, 6])) (.seq (.region r123_7 [] (tO [2, 3, 4, 6, 21])) (.cond (.tmp 21) (.seq (.region r123_10 [] (tO [4, 5])) .ret) .skip))) (.seq (.region r123_12 [] (tO [2, 3, 4, 7])) (.seq (.region r123_14 [] (tO [2, 3, 4, 7, 8])) (.seq (.seq (.region r123_17 [] (tO [2, 3, 4, 7, 8, 26])) (.block 0 (.loopU 4 td123_19 (.seq (.region r123_21 [] (tO [2, 3, 4, 7, 8, 26, 27])) (.seq (.cond (.tmp 27) .skip (.exit 0)) (.seq (.block 1 (.seq (.region r123_27 [] (tO [2, 3, 4, 7, 8, 9, 26])) (.seq (.region r123_29 [] (tO [2, 3, 4, 7, 8, 9, 26, 29])) (.block 2 (.loopU 4 td123_31 (.seq (.region r123_33 [] (tO [2, 3, 4, 7, 8, 9, 26, 29, 30])) (.seq (.cond (.tmp 30) .skip (.exit 2)) (.seq (.block 3 (.seq (.region r123_39 [] (tO [2, 3, 4, 7, 8, 9, 10, 26, 29])) (.seq (.region r123_41 [] (tO [2, 3, 4, 7, 8, 9, 10, 11, 12, 13, 14, 26, 29])) (.region r123_42 [] (tO [2, 3, 4, 7, 8, 9, 26, 29]))))) (.region r123_43 [] (tO [2, 3, 4, 7, 8, 9, 26, 29])))))))))) (.region r123_44 [] (tO [2, 3, 4, 7, 8, 26])))))))) (.seq (.region r123_46 [] (tO [2, 3, 4, 7, 15])) (.seq (.mark [⟨p123_0_0, F123_0_0 a⟩] c123_0_47) (.seq (.region r123_74 [] (tO [4, 5])) .ret))))))))
def cm123_0 : MCode := cm123_0g J123_0_0
theorem gm123_0 : cm123_0.Good Pg E123_0 sh123 := ⟨trivial, ⟨⟨trivial, ⟨trivial, ⟨⟨trivial, trivial⟩, trivial⟩⟩⟩, ⟨trivial, ⟨trivial, ⟨⟨trivial, ⟨⟨trivial, ⟨⟨trivial, trivial⟩, ⟨⟨trivial, ⟨trivial, ⟨⟨trivial, ⟨⟨trivial, trivial⟩, ⟨⟨trivial, ⟨trivial, trivial⟩⟩, trivial⟩⟩⟩, by decide⟩⟩⟩, trivial⟩⟩⟩, by decide⟩⟩, ⟨trivial, ⟨⟨g123_0_47, m123_0_0, trivial⟩, ⟨trivial, trivial⟩⟩⟩⟩⟩⟩⟩⟩
theorem fm123_0g (a : Tf217_0) (b : Tf218_0) (c : TJ123_0_0) (α : Type) (k : RT α) : Fn123_0 (f123_0g c a b) α k = pa123_0.unc fun ds => fnM Pg (E123_0g a b) sh123 (cm123_0g c) rs123 k ds := by kernel_rfl
theorem fm123_0 : ∀ (α : Type) (k : RT α), Fn123_0 f123_0 α k = pa123_0.unc fun ds => fnM Pg E123_0 sh123 cm123_0 rs123 k ds := fm123_0g f217_0 f218_0 J123_0_0
theorem is123 : FnIs Pg 123 nt123 tr123 tl123 cm123_0.erase rs123 := ⟨Tryz.f123, Tryz.func123, rfl, by kernel_rfl, by kernel_rfl, by kernel_rfl⟩
theorem io123_0 : InstOk Pg 123 nt123 ⟨pa123_0, Fn123_0 f123_0⟩ := inst_ok eo123_0 followsTry is123 ⟨⟨sh123, cm123_0, by kernel_rfl, gm123_0, fm123_0⟩⟩
abbrev nt122 : Nat := 22
def sh122 : SG := [(7, iS 10), (8, iS 6), (15, iS 9), (16, iS 6), (18, iT)]
def r122_2 : LA := [oO 2 (.box (.tmp 0)), oO 3 (.box (.tmp 1)), oO 4 (.alloc (zI 6)), mK 5 0]
def r122_5 : LA := [lA 7 10 2, lA 8 6 3, oO 9 (.call 217 [(.tmp 7), (.tmp 8)]), oM 6 9]
def r122_7 : LA := [oM 10 6, oO 11 (.bin .neq 28 (.tmp 10) (kI 0))]
def r122_10 : LA := [oO 12 (.build (zI 6) []), oM 13 6, sD 6 4 12, oM 5 13]
def r122_12 : LA := [fA 14 0 2, lA 15 9 14, lA 16 6 3, fA 17 9 2, lD 18 17, oO 19 (.call 218 [(.tmp 15), (.tmp 16), (kI 1), (.tmp 18)]), oO 20 (.extract 0 (.tmp 19)), oO 21 (.extract 1 (.tmp 19)), sD 6 4 20, oM 5 21]
def tr122 : TG := [tT 0 [2, 3, 4], tT 1 [2, 3, 4, 6], tT 2 [2, 3, 4, 6, 11], tT 3 [4, 5], tT 4 [4, 5]]
def tl122 : TG := []
def rs122 : List AResV := [.cell 4 true 6, .tmp 5]
def pr122_0_0 : PT (List RV) := pRs [pR true [rD (dI .i64), rD (dI .i64), rD (dI .i64), rD (dI .i64), rD (dI .i64), rD (dI .i64)], wI]
def ur122_0_0 {β : Type} (g : List RV -> β) : I7 β := pr122_0_0.unc g
def E122_0g (a : Tf217_0) (b : Tf218_0) : EnvK := EnvK.of [⟨217, nt217, [⟨pa217_0, Fn217_0 a⟩]⟩, ⟨218, nt218, [⟨pa218_0, Fn218_0 b⟩]⟩] noSeq
def E122_0 : EnvK := E122_0g f217_0 f218_0
theorem eo122_0 : E122_0.Ok Pg := EnvK.of_ok noSeq_ok ⟨⟨io217_0, trivial⟩, ⟨io218_0, trivial⟩, trivial⟩
abbrev Tf122_0 : Type 1 := (α : Type) -> Int -> Int -> Int -> Int -> Int -> Int -> Int -> Int -> Int -> Int -> Int -> Int -> Int -> Int -> Int -> Int -> (I7 (Op α)) -> Op α
def f122_0g (w : Tf217_0) (z : Tf218_0) (α : Type) (a b c d e g h i j l m o p q r s : Int) (k1 : I7 (Op α)) : Op α :=
 w α a b c d e g h i j l m o p q r s
 (fun t => cK (t != 0)
 (k1 0 0 0 0 0 0 t)
 (z α a b c d e g h i j m o p q r s 1 l
 (fun A B C D F G H => k1 A B C D F G H)))
def f122_0 (α : Type) (a b c d e g h i j l m o p q r s : Int) (k1 : I7 (Op α)) : Op α := f122_0g f217_0 f218_0 α a b c d e g h i j l m o p q r s k1
def pa122_0 : PT (List DV) := pA [pV true [(dI .i64), (dI .i64), (dI .i64), (dI .i64), (dI .i64), (dI .i64), (dI .i64), (dI .i64), (dI .i64), (dI .i64)], pV true [(dI .i64), (dI .i64), (dI .i64), (dI .i64), (dI .i64), (dI .i64)]]
def Fn122_0 (v : Tf122_0) (α : Type) (k : RT α) : I16 (Op α) := fun a b c d e g h i j l m o p q r s => v α a b c d e g h i j l m o p q r s (fun t w z A B C D => ur122_0_0 k t w z A B C D)
def cm122_0g : MCode := (.seq (.region r122_2 [] (tO [2, 3, 4])) (.seq (.seq (.region r122_5 [] (tO [2, 3, 4, 6])) (.seq (.region r122_7 [] (tO [2, 3, 4, 6, 11])) (.cond (.tmp 11) (.seq (.region r122_10 [] (tO [4, 5])) .ret) .skip))) (.seq (.region r122_12 [] (tO [4, 5])) .ret)))
def cm122_0 : MCode := cm122_0g
theorem gm122_0 : cm122_0.Good Pg E122_0 sh122 := ⟨trivial, ⟨⟨trivial, ⟨trivial, ⟨⟨trivial, trivial⟩, trivial⟩⟩⟩, ⟨trivial, trivial⟩⟩⟩
theorem fm122_0g (a : Tf217_0) (b : Tf218_0) (α : Type) (k : RT α) : Fn122_0 (f122_0g a b) α k = pa122_0.unc fun ds => fnM Pg (E122_0g a b) sh122 (cm122_0g ) rs122 k ds := by kernel_rfl
theorem fm122_0 : ∀ (α : Type) (k : RT α), Fn122_0 f122_0 α k = pa122_0.unc fun ds => fnM Pg E122_0 sh122 cm122_0 rs122 k ds := fm122_0g f217_0 f218_0
theorem is122 : FnIs Pg 122 nt122 tr122 tl122 cm122_0.erase rs122 := ⟨Tryz.f122, Tryz.func122, rfl, by kernel_rfl, by kernel_rfl, by kernel_rfl⟩
theorem io122_0 : InstOk Pg 122 nt122 ⟨pa122_0, Fn122_0 f122_0⟩ := inst_ok eo122_0 followsTry is122 ⟨⟨sh122, cm122_0, by kernel_rfl, gm122_0, fm122_0⟩⟩
end
end Go.AM.K
