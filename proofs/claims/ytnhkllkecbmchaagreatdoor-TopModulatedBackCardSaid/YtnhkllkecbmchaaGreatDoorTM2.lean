/- Printed by KGen. -/
import Derived.Test.YtnhkllkecbmchaaGreatDoorTM1
namespace Go.AM.K
open Go.Proofs
set_option maxRecDepth 100000
set_option linter.unusedVariables false
noncomputable section
abbrev nt47 : Nat := 103
def sh47 : SG := [(40, iT), (47, iT), (62, iT), (72, iT), (84, iS 10), (85, iS 6), (94, iS 10), (95, iS 6), (102, iS 6)]
def r47_2 : LA := [oO 8 (.box (.tmp 3)), oO 10 (.alloc (zI 6)), oO 11 (.mv (.const (.bool false)))]
def r47_4 : LA := [oO 12 (.mv (.const (.slice none 0 0)))]
def r47_6 : LA := [oM 21 0, oM 22 1, bT 23 .add 21 22, oM 24 0, oM 25 2, bT 26 .add 24 25, oM 27 0, oM 28 1, bT 29 .sub 27 28, oM 30 0, oM 31 2, bT 32 .sub 30 31, oO 33 (.build (zI 4) [(0, 1, (.tmp 23)), (1, 1, (.tmp 26)), (2, 1, (.tmp 29)), (3, 1, (.tmp 32))]), oO 13 (.alloc (zI 4)), sD 4 13 33]
def r47_9 : LA := [mK 14 0]
def td47_11 : OT := (some ⟨[4, 8, 10, 12, 13, 14], true, [⟨false, 12, 0, 20012, 1⟩], []⟩)
def r47_14 : LA := [oM 34 14, bK 35 .lss 34 4]
def r47_19 : LA := [oM 38 14, oO 39 (.iaddr 1 (some 4) (.tmp 13) (.tmp 38)), lD 40 39, oO 41 (.bin .mul 3 (kI 20) (.tmp 40)), oM 42 4, oM 43 14, bT 44 .add 42 43, fA 45 11 8, oO 46 (.iaddr 1 (some 8) (.tmp 45) (.tmp 44)), lD 47 46, oO 48 (.call 119 [(.tmp 47), (kI 5)]), bT 49 .add 41 48, bK 50 .sub 49 2, oM 15 50]
def r47_22 : LA := [oM 51 15, oO 52 (.call 44 [(.tmp 51), (kI 0), (kI 60000)]), oO 53 (.pure (oB (.unOp .not 4 (.tmp 52)) 4))]
def r47_25 : LA := [oO 54 (.build (zI 6) []), sD 6 10 54, oO 11 (.mv (.const (.bool false)))]
def r47_26 : LA := [oM 55 12, oM 56 15, oO 57 (.bslice 1 1 [(.v (.int .i64 0))] [(0, (.tmp 56))]), oO 58 (.append 1 8 (.tmp 55) (.tmp 57)), oM 12 58]
def r47_27 : LA := [oM 36 14, bK 37 .add 36 1, oM 14 37]
def r47_29 : LA := [oM 60 12, fA 61 10 8, lD 62 61, oO 63 (.call 120 [(.tmp 60), (.tmp 62)]), oM 59 63, oO 64 (.extract 0 (.tmp 59)), oO 65 (.extract 1 (.tmp 59)), oM 16 64, oM 17 65]
def r47_32 : LA := [oM 66 17, oO 67 (.bin .neq 28 (.tmp 66) (kI 0))]
def r47_35 : LA := [oO 68 (.build (zI 6) []), sD 6 10 68, oO 11 (.mv (.const (.bool false)))]
def r47_37 : LA := [oM 70 16, fA 71 10 8, lD 72 71, oO 73 (.call 121 [(.tmp 72), (kI 2)]), oO 74 (.bin .add 3 (kI 2) (.tmp 73)), oO 75 (.build [.nils, (cI 0), (cI 0)] [(0, 1, (.tmp 70)), (1, 1, (.tmp 74)), (2, 1, (kI 65536))]), oO 76 (.call 70 [.tmp 75]), oM 69 76, oO 77 (.extract 0 (.tmp 69)), oO 78 (.extract 1 (.tmp 69)), oO 18 (.alloc (zI 6)), sD 6 18 77, oM 17 78]
def r47_40 : LA := [oM 79 17, oO 80 (.bin .neq 28 (.tmp 79) (kI 0))]
def r47_43 : LA := [oO 81 (.build (zI 6) []), sD 6 10 81, oO 11 (.mv (.const (.bool false)))]
def r47_45 : LA := [fA 83 0 8, lA 84 10 83, lA 85 6 18, oO 86 (.call 122 [(.tmp 84), (.tmp 85)]), oM 82 86, oO 87 (.extract 0 (.tmp 82)), oO 88 (.extract 1 (.tmp 82)), oO 19 (.alloc (zI 6)), sD 6 19 87, oM 17 88]
def r47_48 : LA := [oM 89 17, oO 90 (.bin .neq 28 (.tmp 89) (kI 0))]
def r47_51 : LA := [oO 91 (.build (zI 6) []), sD 6 10 91, oO 11 (.mv (.const (.bool false)))]
def r47_53 : LA := [fA 93 0 8, lA 94 10 93, lA 95 6 19, oO 96 (.call 123 [(.tmp 94), (.tmp 95)]), oM 92 96, oO 97 (.extract 0 (.tmp 92)), oO 98 (.extract 1 (.tmp 92)), oO 20 (.alloc (zI 6)), sD 6 20 97, oM 17 98]
def r47_56 : LA := [oM 99 17, oO 100 (.bin .neq 28 (.tmp 99) (kI 0))]
def r47_59 : LA := [oO 101 (.build (zI 6) []), sD 6 10 101, oO 11 (.mv (.const (.bool false)))]
def r47_61 : LA := [lA 102 6 20, sD 6 10 102, oO 11 (.mv (.const (.bool true)))]
def tr47 : TG := [tT 0 [0, 1, 2, 4, 8, 10], tT 1 [0, 1, 2, 4, 8, 10, 12], tT 2 [4, 8, 10, 12, 13], tT 3 [4, 8, 10, 12, 13, 14], tT 4 [4, 8, 10, 12, 13, 14, 35], tT 6 [4, 8, 10, 12, 13, 14, 15], tT 7 [4, 8, 10, 12, 13, 14, 15, 53], tT 8 [10, 11], tT 9 [4, 8, 10, 12, 13, 14], tT 5 [4, 8, 10, 12, 13, 14], tT 10 [8, 10, 16, 17], tT 11 [8, 10, 16, 67], tT 12 [10, 11], tT 13 [8, 10, 17, 18], tT 14 [8, 10, 18, 80], tT 15 [10, 11], tT 16 [8, 10, 17, 19], tT 17 [8, 10, 19, 90], tT 18 [10, 11], tT 19 [10, 17, 20], tT 20 [10, 20, 100], tT 21 [10, 11], tT 22 [10, 11]]
def tl47 : TG := [(4, ⟨[4, 8, 10, 12, 13, 14], true, [⟨false, 12, 0, 20012, 1⟩], []⟩)]
def rs47 : List AResV := [.cell 10 true 6, .tmp 11]
def pr47_0_0 : PT (List RV) := pRs [pR true [rD (dI .i64), rD (dI .i64), rD (dI .i64), rD (dI .i64), rD (dI .i64), rD (dI .i64)], pR false [rD dB]]
def ur47_0_0 {β : Type} (g : List RV -> β) : Int -> Int -> Int -> Int -> Int -> Int -> Bool -> β := pr47_0_0.unc g
def E47_0g (a : Tf119_0) (b : Tf44_0) (c : Tf120_0) (d : Tf121_0) (e : Tf70_0) (g : Tf122_0) (h : Tf123_0) : EnvK := EnvK.of [⟨119, nt119, [⟨pa119_0, Fn119_0 a⟩]⟩, ⟨44, nt44, [⟨pa44_0, Fn44_0 b⟩]⟩, ⟨120, nt120, [⟨pa120_0, Fn120_0 c⟩]⟩, ⟨121, nt121, [⟨pa121_0, Fn121_0 d⟩]⟩, ⟨70, nt70, [⟨pa70_0, Fn70_0 e⟩]⟩, ⟨122, nt122, [⟨pa122_0, Fn122_0 g⟩]⟩, ⟨123, nt123, [⟨pa123_0, Fn123_0 h⟩]⟩] noSeq
def E47_0 : EnvK := E47_0g f119_0 f44_0 f120_0 f121_0 f70_0 f122_0 f123_0
theorem eo47_0 : E47_0.Ok Pg := EnvK.of_ok noSeq_ok ⟨⟨io119_0, trivial⟩, ⟨io44_0, trivial⟩, ⟨io120_0, trivial⟩, ⟨io121_0, trivial⟩, ⟨io70_0, trivial⟩, ⟨io122_0, trivial⟩, ⟨io123_0, trivial⟩, trivial⟩
abbrev Tf47_0 : Type 1 := (α : Type) -> Int -> Int -> Int -> Int -> Int -> Int -> Int -> Int -> Int -> Int -> Int -> Int -> Int -> Int -> Int -> Int -> Int -> Int -> (I6 (Bool -> Op α)) -> Op α
def f47_0g (b : Tf119_0) (C : Tf120_0) (D : Tf121_0) (F : Tf122_0) (G : Tf123_0) (c : Tf44_0) (H : Tf70_0) (α : Type) (a d e g h i j l m o p q r s I J L M : Int) (k1 : I6 (Bool -> Op α)) : Op α :=
 b α I 5
 (fun t => c α (w64 ((w64 ((w64 (20 * (w64 (a + d)))) + t)) - 2)) 0 60000
 (fun N => cK (!N)
 (k1 0 0 0 0 0 0 false)
 (b α J 5
 (fun w => c α (w64 ((w64 ((w64 (20 * (w64 (a + e)))) + w)) - 2)) 0 60000
 (fun O => cK (!O)
 (k1 0 0 0 0 0 0 false)
 (b α L 5
 (fun z => c α (w64 ((w64 ((w64 (20 * (w64 (a - d)))) + z)) - 2)) 0 60000
 (fun P => cK (!P)
 (k1 0 0 0 0 0 0 false)
 (b α M 5
 (fun A => c α (w64 ((w64 ((w64 (20 * (w64 (a - e)))) + A)) - 2)) 0 60000
 (fun Q => cK (!Q)
 (k1 0 0 0 0 0 0 false)
 (C α [[DC.v (.int .i64 (w64 ((w64 ((w64 (20 * (w64 (a + d)))) + t)) - 2)))], [DC.v (.int .i64 (w64 ((w64 ((w64 (20 * (w64 (a + e)))) + w)) - 2)))], [DC.v (.int .i64 (w64 ((w64 ((w64 (20 * (w64 (a - d)))) + z)) - 2)))], [DC.v (.int .i64 (w64 ((w64 ((w64 (20 * (w64 (a - e)))) + A)) - 2)))]] s
 (fun B R => flatK [B]
 (cK (R != 0)
 (k1 0 0 0 0 0 0 false)
 (D α s 2
 (fun T => H α B (w64 (2 + T)) 65536
 (fun U V W X Y Z a0 => cK (a0 != 0)
 (k1 0 0 0 0 0 0 false)
 (F α g h i j l m o p q r U V W X Y Z
 (fun a1 a2 a3 a4 a5 a6 a7 => cK (a7 != 0)
 (k1 0 0 0 0 0 0 false)
 (G α g h i j l m o p q r a1 a2 a3 a4 a5 a6
 (fun a8 a9 b0 b1 b2 b3 b4 => cK (b4 != 0)
 (k1 0 0 0 0 0 0 false)
 (k1 a8 a9 b0 b1 b2 b3 true))))))))))))))))))))))
def f47_0 (α : Type) (a b c d e g h i j l m o p q r s t w : Int) (k1 : I6 (Bool -> Op α)) : Op α := f47_0g f119_0 f120_0 f121_0 f122_0 f123_0 f44_0 f70_0 α a b c d e g h i j l m o p q r s t w k1
def pa47_0 : PT (List DV) := pA [vI, vI, vI, pV true [(dI .i64), (dI .i64), (dI .i64), (dI .i64), (dI .i64), (dI .i64), (dI .i64), (dI .i64), (dI .i64), (dI .i64), (dI .i64), (dI .i64), (dI .i64), (dI .i64), (dI .i64), (dI .i64), (dI .i64), (dI .i64), (dI .i64)], pV false [(dIc .i64 0)]]
def Fn47_0 (v : Tf47_0) (α : Type) (k : RT α) : I22 (Op α) := fun a b c d e g h i j l m o p q r s t w H I J L => v α a b c d e g h i j l m o p q r s t w (fun z A B C D F G => ur47_0_0 k z A B C D F G)
def cm47_0g : MCode := (.seq (.region r47_2 [] (tO [0, 1, 2, 4, 8, 10])) (.seq (.region r47_4 [] (tO [0, 1, 2, 4, 8, 10, 12])) (.seq (.region r47_6 [] (tO [4, 8, 10, 12, 13])) (.seq (.seq (.region r47_9 [] (tO [4, 8, 10, 12, 13, 14])) (.block 0 (.loopU 5 td47_11 (.seq (.seq (.region r47_14 [] (tO [4, 8, 10, 12, 13, 14, 35])) (.cond (.tmp 35) .skip (.exit 0))) (.seq (.block 1 (.seq (.region r47_19 [(2, 10)] (tO [4, 8, 10, 12, 13, 14, 15])) (.seq (.seq (.region r47_22 [] (tO [4, 8, 10, 12, 13, 14, 15, 53])) (.cond (.tmp 53) (.seq (.region r47_25 [] (tO [10, 11])) .ret) .skip)) (.region r47_26 [] (tO [4, 8, 10, 12, 13, 14]))))) (.region r47_27 [] (tO [4, 8, 10, 12, 13, 14]))))))) (.seq (.region r47_29 [] (tO [8, 10, 16, 17])) (.seq (.seq (.region r47_32 [] (tO [8, 10, 16, 67])) (.cond (.tmp 67) (.seq (.region r47_35 [] (tO [10, 11])) .ret) .skip)) (.seq (.region r47_37 [] (tO [8, 10, 17, 18])) (.seq (.seq (.region r47_40 [] (tO [8, 10, 18, 80])) (.cond (.tmp 80) (.seq (.region r47_43 [] (tO [10, 11])) .ret) .skip)) (.seq (.region r47_45 [] (tO [8, 10, 17, 19])) (.seq (.seq (.region r47_48 [] (tO [8, 10, 19, 90])) (.cond (.tmp 90) (.seq (.region r47_51 [] (tO [10, 11])) .ret) .skip)) (.seq (.region r47_53 [] (tO [10, 17, 20])) (.seq (.seq (.region r47_56 [] (tO [10, 20, 100])) (.cond (.tmp 100) (.seq (.region r47_59 [] (tO [10, 11])) .ret) .skip)) (.seq (.region r47_61 [] (tO [10, 11])) .ret)))))))))))))
def cm47_0 : MCode := cm47_0g
theorem gm47_0 : cm47_0.Good Pg E47_0 sh47 := ⟨trivial, ⟨trivial, ⟨trivial, ⟨⟨trivial, ⟨⟨⟨trivial, ⟨trivial, trivial⟩⟩, ⟨⟨trivial, ⟨⟨trivial, ⟨⟨trivial, trivial⟩, trivial⟩⟩, trivial⟩⟩, trivial⟩⟩, by decide⟩⟩, ⟨trivial, ⟨⟨trivial, ⟨⟨trivial, trivial⟩, trivial⟩⟩, ⟨trivial, ⟨⟨trivial, ⟨⟨trivial, trivial⟩, trivial⟩⟩, ⟨trivial, ⟨⟨trivial, ⟨⟨trivial, trivial⟩, trivial⟩⟩, ⟨trivial, ⟨⟨trivial, ⟨⟨trivial, trivial⟩, trivial⟩⟩, ⟨trivial, trivial⟩⟩⟩⟩⟩⟩⟩⟩⟩⟩⟩⟩⟩
theorem fm47_0g (a : Tf119_0) (b : Tf44_0) (c : Tf120_0) (d : Tf121_0) (e : Tf70_0) (g : Tf122_0) (h : Tf123_0) (α : Type) (k : RT α) : Fn47_0 (f47_0g a c d g h b e) α k = pa47_0.unc fun ds => fnM Pg (E47_0g a b c d e g h) sh47 (cm47_0g ) rs47 k ds := by kernel_rfl
theorem fm47_0 : ∀ (α : Type) (k : RT α), Fn47_0 f47_0 α k = pa47_0.unc fun ds => fnM Pg E47_0 sh47 cm47_0 rs47 k ds := fm47_0g f119_0 f44_0 f120_0 f121_0 f70_0 f122_0 f123_0
theorem is47 : FnIs Pg 47 nt47 tr47 tl47 cm47_0.erase rs47 := ⟨Tryz.f47, Tryz.func47, rfl, by kernel_rfl, by kernel_rfl, by kernel_rfl⟩
theorem io47_0 : InstOk Pg 47 nt47 ⟨pa47_0, Fn47_0 f47_0⟩ := inst_ok eo47_0 followsTry is47 ⟨⟨sh47, cm47_0, by kernel_rfl, gm47_0, fm47_0⟩⟩
def pr47_1_0 : PT (List RV) := pRs [pR true [rD (dI .i64), rD (dI .i64), rD (dI .i64), rD (dI .i64), rD (dI .i64), rD (dI .i64)], pR false [rD dB]]
def ur47_1_0 {β : Type} (g : List RV -> β) : Int -> Int -> Int -> Int -> Int -> Int -> Bool -> β := pr47_1_0.unc g
def E47_1g (a : Tf119_0) (b : Tf44_0) (c : Tf120_0) (d : Tf121_0) (e : Tf70_0) (g : Tf122_0) (h : Tf123_0) : EnvK := EnvK.of [⟨119, nt119, [⟨pa119_0, Fn119_0 a⟩]⟩, ⟨44, nt44, [⟨pa44_0, Fn44_0 b⟩]⟩, ⟨120, nt120, [⟨pa120_0, Fn120_0 c⟩]⟩, ⟨121, nt121, [⟨pa121_0, Fn121_0 d⟩]⟩, ⟨70, nt70, [⟨pa70_0, Fn70_0 e⟩]⟩, ⟨122, nt122, [⟨pa122_0, Fn122_0 g⟩]⟩, ⟨123, nt123, [⟨pa123_0, Fn123_0 h⟩]⟩] noSeq
def E47_1 : EnvK := E47_1g f119_0 f44_0 f120_0 f121_0 f70_0 f122_0 f123_0
theorem eo47_1 : E47_1.Ok Pg := EnvK.of_ok noSeq_ok ⟨⟨io119_0, trivial⟩, ⟨io44_0, trivial⟩, ⟨io120_0, trivial⟩, ⟨io121_0, trivial⟩, ⟨io70_0, trivial⟩, ⟨io122_0, trivial⟩, ⟨io123_0, trivial⟩, trivial⟩
abbrev Tf47_1 : Type 1 := (α : Type) -> Int -> Int -> Int -> Int -> Int -> Int -> Int -> Int -> Int -> Int -> Int -> Int -> Int -> Int -> Int -> Int -> Int -> Int -> (I6 (Bool -> Op α)) -> Op α
def f47_1g (b : Tf119_0) (C : Tf120_0) (D : Tf121_0) (F : Tf122_0) (G : Tf123_0) (c : Tf44_0) (H : Tf70_0) (α : Type) (a d e g h i j l m o p q r s I J L M : Int) (k1 : I6 (Bool -> Op α)) : Op α :=
 b α I 5
 (fun t => c α (w64 ((w64 ((w64 (20 * (w64 (a + d)))) + t)) - 2)) 0 60000
 (fun N => cK (!N)
 (k1 0 0 0 0 0 0 false)
 (b α J 5
 (fun w => c α (w64 ((w64 ((w64 (20 * (w64 (a + e)))) + w)) - 2)) 0 60000
 (fun O => cK (!O)
 (k1 0 0 0 0 0 0 false)
 (b α L 5
 (fun z => c α (w64 ((w64 ((w64 (20 * (w64 (a - d)))) + z)) - 2)) 0 60000
 (fun P => cK (!P)
 (k1 0 0 0 0 0 0 false)
 (b α M 5
 (fun A => c α (w64 ((w64 ((w64 (20 * (w64 (a - e)))) + A)) - 2)) 0 60000
 (fun Q => cK (!Q)
 (k1 0 0 0 0 0 0 false)
 (C α [[DC.v (.int .i64 (w64 ((w64 ((w64 (20 * (w64 (a + d)))) + t)) - 2)))], [DC.v (.int .i64 (w64 ((w64 ((w64 (20 * (w64 (a + e)))) + w)) - 2)))], [DC.v (.int .i64 (w64 ((w64 ((w64 (20 * (w64 (a - d)))) + z)) - 2)))], [DC.v (.int .i64 (w64 ((w64 ((w64 (20 * (w64 (a - e)))) + A)) - 2)))]] s
 (fun B R => flatK [B]
 (cK (R != 0)
 (k1 0 0 0 0 0 0 false)
 (D α s 2
 (fun T => H α B (w64 (2 + T)) 65536
 (fun U V W X Y Z a0 => cK (a0 != 0)
 (k1 0 0 0 0 0 0 false)
 (F α g h i j l m o p q r U V W X Y Z
 (fun a1 a2 a3 a4 a5 a6 a7 => cK (a7 != 0)
 (k1 0 0 0 0 0 0 false)
 (G α g h i j l m o p q r a1 a2 a3 a4 a5 a6
 (fun a8 a9 b0 b1 b2 b3 b4 => cK (b4 != 0)
 (k1 0 0 0 0 0 0 false)
 (k1 a8 a9 b0 b1 b2 b3 true))))))))))))))))))))))
def f47_1 (α : Type) (a b c d e g h i j l m o p q r s t w : Int) (k1 : I6 (Bool -> Op α)) : Op α := f47_1g f119_0 f120_0 f121_0 f122_0 f123_0 f44_0 f70_0 α a b c d e g h i j l m o p q r s t w k1
def pa47_1 : PT (List DV) := pA [vI, vI, vI, pV true [(dI .i64), (dI .i64), (dI .i64), (dI .i64), (dI .i64), (dI .i64), (dI .i64), (dI .i64), (dI .i64), (dI .i64), (dI .i64), (dI .i64), (dI .i64), (dI .i64), (dI .i64), (dI .i64), (dI .i64), (dI .i64), (dI .i64)], pV false [(dIc .i64 4)]]
def Fn47_1 (v : Tf47_1) (α : Type) (k : RT α) : I22 (Op α) := fun a b c d e g h i j l m o p q H I J L r s t w => v α a b c d e g h i j l m o p q r s t w (fun z A B C D F G => ur47_1_0 k z A B C D F G)
def cm47_1g : MCode := (.seq (.region r47_2 [] (tO [0, 1, 2, 4, 8, 10])) (.seq (.region r47_4 [] (tO [0, 1, 2, 4, 8, 10, 12])) (.seq (.region r47_6 [] (tO [4, 8, 10, 12, 13])) (.seq (.seq (.region r47_9 [] (tO [4, 8, 10, 12, 13, 14])) (.block 0 (.loopU 5 td47_11 (.seq (.seq (.region r47_14 [] (tO [4, 8, 10, 12, 13, 14, 35])) (.cond (.tmp 35) .skip (.exit 0))) (.seq (.block 1 (.seq (.region r47_19 [(2, 10)] (tO [4, 8, 10, 12, 13, 14, 15])) (.seq (.seq (.region r47_22 [] (tO [4, 8, 10, 12, 13, 14, 15, 53])) (.cond (.tmp 53) (.seq (.region r47_25 [] (tO [10, 11])) .ret) .skip)) (.region r47_26 [] (tO [4, 8, 10, 12, 13, 14]))))) (.region r47_27 [] (tO [4, 8, 10, 12, 13, 14]))))))) (.seq (.region r47_29 [] (tO [8, 10, 16, 17])) (.seq (.seq (.region r47_32 [] (tO [8, 10, 16, 67])) (.cond (.tmp 67) (.seq (.region r47_35 [] (tO [10, 11])) .ret) .skip)) (.seq (.region r47_37 [] (tO [8, 10, 17, 18])) (.seq (.seq (.region r47_40 [] (tO [8, 10, 18, 80])) (.cond (.tmp 80) (.seq (.region r47_43 [] (tO [10, 11])) .ret) .skip)) (.seq (.region r47_45 [] (tO [8, 10, 17, 19])) (.seq (.seq (.region r47_48 [] (tO [8, 10, 19, 90])) (.cond (.tmp 90) (.seq (.region r47_51 [] (tO [10, 11])) .ret) .skip)) (.seq (.region r47_53 [] (tO [10, 17, 20])) (.seq (.seq (.region r47_56 [] (tO [10, 20, 100])) (.cond (.tmp 100) (.seq (.region r47_59 [] (tO [10, 11])) .ret) .skip)) (.seq (.region r47_61 [] (tO [10, 11])) .ret)))))))))))))
def cm47_1 : MCode := cm47_1g
theorem gm47_1 : cm47_1.Good Pg E47_1 sh47 := ⟨trivial, ⟨trivial, ⟨trivial, ⟨⟨trivial, ⟨⟨⟨trivial, ⟨trivial, trivial⟩⟩, ⟨⟨trivial, ⟨⟨trivial, ⟨⟨trivial, trivial⟩, trivial⟩⟩, trivial⟩⟩, trivial⟩⟩, by decide⟩⟩, ⟨trivial, ⟨⟨trivial, ⟨⟨trivial, trivial⟩, trivial⟩⟩, ⟨trivial, ⟨⟨trivial, ⟨⟨trivial, trivial⟩, trivial⟩⟩, ⟨trivial, ⟨⟨trivial, ⟨⟨trivial, trivial⟩, trivial⟩⟩, ⟨trivial, ⟨⟨trivial, ⟨⟨trivial, trivial⟩, trivial⟩⟩, ⟨trivial, trivial⟩⟩⟩⟩⟩⟩⟩⟩⟩⟩⟩⟩⟩
theorem fm47_1g (a : Tf119_0) (b : Tf44_0) (c : Tf120_0) (d : Tf121_0) (e : Tf70_0) (g : Tf122_0) (h : Tf123_0) (α : Type) (k : RT α) : Fn47_1 (f47_1g a c d g h b e) α k = pa47_1.unc fun ds => fnM Pg (E47_1g a b c d e g h) sh47 (cm47_1g ) rs47 k ds := by kernel_rfl
theorem fm47_1 : ∀ (α : Type) (k : RT α), Fn47_1 f47_1 α k = pa47_1.unc fun ds => fnM Pg E47_1 sh47 cm47_1 rs47 k ds := fm47_1g f119_0 f44_0 f120_0 f121_0 f70_0 f122_0 f123_0
theorem io47_1 : InstOk Pg 47 nt47 ⟨pa47_1, Fn47_1 f47_1⟩ := inst_ok eo47_1 followsTry is47 ⟨⟨sh47, cm47_1, by kernel_rfl, gm47_1, fm47_1⟩⟩
abbrev nt8 : Nat := 238
def sh8 : SG := [(25, iT), (30, iT), (36, iT), (42, iT), (48, iT), (54, iT), (56, iT), (59, iT), (61, iT), (71, iT), (76, iT), (80, iT), (82, iT), (84, iT), (85, iS 19), (91, iT), (93, iT), (95, iT), (96, iS 19), (109, iT), (115, iT), (120, iS 6), (121, iS 6), (130, iS 2), (132, iS 2), (134, iS 2), (137, iT), (140, iT), (142, iT), (151, iT), (155, iT), (162, iT), (169, iT), (171, iT), (175, iT), (182, iT), (187, iT), (189, iT), (194, [.str, .int .i64, .int .i64, .int .i64, .int .i64, .int .i64, .int .i64, .int .i64, .int .i64, .int .i64]), (199, [.str, .int .i64, .int .i64, .int .i64, .int .i64, .int .i64, .int .i64, .int .i64, .int .i64, .int .i64]), (204, [.str, .int .i64, .int .i64, .int .i64, .int .i64, .int .i64, .int .i64, .int .i64, .int .i64, .int .i64]), (213, iT), (218, iT), (234, [.str, .int .i64, .int .i64, .int .i64, .int .i64, .int .i64, .int .i64, .int .i64, .int .i64, .int .i64]), (235, [.str, .int .i64, .int .i64, .int .i64, .int .i64, .int .i64, .int .i64, .int .i64, .int .i64, .int .i64])]
def r8_2 : LA := [oO 2 (.box (.tmp 0)), oO 3 (.box (.tmp 1)), oO 4 (.mv (.const (.bool false)))]
def r8_5 : LA := [oO 22 (.call 43 []), oO 23 (.pure (oB (.unOp .not 4 (.tmp 22)) 4))]
def r8_8 : LA := [oO 4 (.mv (.const (.bool false)))]
def r8_11 : LA := [oO 24 (.iaddr 1 (some 4) (.tmp 2) (kI 0)), lD 25 24, oO 26 (.call 44 [(.tmp 25), (kI (-5)), (kI 5)]), oO 27 (.pure (oB (.unOp .not 4 (.tmp 26)) 4)), oM 28 27, oG 29 (.iaddr 1 (some 4) (.tmp 2) (kI 1)) 28 false, oG 30 (.load false 1 (.tmp 29)) 28 false, oG 31 (.call 44 [(.tmp 30), (kI (-5)), (kI 5)]) 28 false, oG 32 (.pure (oB (.unOp .not 4 (.tmp 31)) 4)) 28 false, oO 33 (.pick (.tmp 28) (.const (.bool true)) (.tmp 32)), oM 34 33, oG 35 (.iaddr 1 (some 4) (.tmp 2) (kI 2)) 34 false, oG 36 (.load false 1 (.tmp 35)) 34 false, oG 37 (.call 44 [(.tmp 36), (kI (-5)), (kI 5)]) 34 false, oG 38 (.pure (oB (.unOp .not 4 (.tmp 37)) 4)) 34 false, oO 39 (.pick (.tmp 34) (.const (.bool true)) (.tmp 38)), oM 40 39, oG 41 (.iaddr 1 (some 4) (.tmp 2) (kI 3)) 40 false, oG 42 (.load false 1 (.tmp 41)) 40 false, oG 43 (.call 44 [(.tmp 42), (kI (-5)), (kI 5)]) 40 false, oG 44 (.pure (oB (.unOp .not 4 (.tmp 43)) 4)) 40 false, oO 45 (.pick (.tmp 40) (.const (.bool true)) (.tmp 44)), oM 46 45, oG 47 (.faddr 10 (.tmp 3)) 46 false, oG 48 (.load false 1 (.tmp 47)) 46 false, oG 49 (.call 44 [(.tmp 48), (kI 1), (kI 20)]) 46 false, oG 50 (.pure (oB (.unOp .not 4 (.tmp 49)) 4)) 46 false, oO 51 (.pick (.tmp 46) (.const (.bool true)) (.tmp 50))]
def r8_14 : LA := [oO 4 (.mv (.const (.bool true)))]
def r8_16 : LA := [oO 53 (.iaddr 1 (some 4) (.tmp 2) (kI 0)), lD 54 53, oO 55 (.iaddr 1 (some 4) (.tmp 2) (kI 1)), lD 56 55, oO 57 (.call 46 [(.tmp 54), (.tmp 56)]), oO 58 (.iaddr 1 (some 4) (.tmp 2) (kI 2)), lD 59 58, oO 60 (.iaddr 1 (some 4) (.tmp 2) (kI 3)), lD 61 60, oO 62 (.call 46 [(.tmp 59), (.tmp 61)]), oO 63 (.build [(.d (.v (.complex Go.FloatKind.f64 0 0))), (.d (.v (.complex Go.FloatKind.f64 0 0)))] [(0, 1, (.tmp 57)), (1, 1, (.tmp 62))]), oO 64 (.call 45 [.tmp 63]), oM 52 64, oO 65 (.extract 0 (.tmp 52)), oO 66 (.extract 1 (.tmp 52)), oO 5 (.alloc (zI 4)), sD 4 5 65, oM 6 66]
def r8_19 : LA := [oM 67 6, oO 68 (.bin .neq 28 (.tmp 67) (kI 0)), oM 69 68, oG 70 (.iaddr 1 (some 4) (.tmp 5) (kI 0)) 69 false, oG 71 (.load false 1 (.tmp 70)) 69 false, oG 72 (.call 44 [(.tmp 71), (kI 0), (kI 100)]) 69 false, oG 73 (.pure (oB (.unOp .not 4 (.tmp 72)) 4)) 69 false, oO 74 (.pick (.tmp 69) (.const (.bool true)) (.tmp 73))]
def r8_22 : LA := [oO 4 (.mv (.const (.bool false)))]
def r8_25 : LA := [oO 75 (.iaddr 1 (some 4) (.tmp 5) (kI 0)), lD 76 75, bK 77 .eql 76 0]
def r8_28 : LA := [oO 4 (.mv (.const (.bool true)))]
def r8_30 : LA := [oO 79 (.iaddr 1 (some 4) (.tmp 5) (kI 0)), lD 80 79, oO 81 (.iaddr 1 (some 4) (.tmp 5) (kI 1)), lD 82 81, oO 83 (.iaddr 1 (some 4) (.tmp 5) (kI 2)), lD 84 83, lA 85 19 3, oO 86 (.call 47 [(.tmp 80), (.tmp 82), (.tmp 84), (.tmp 85), (kI 0)]), oM 78 86, oO 87 (.extract 0 (.tmp 78)), oO 88 (.extract 1 (.tmp 78)), oO 7 (.alloc (zI 6)), sD 6 7 87, oM 8 88]
def r8_32 : LA := [oO 90 (.iaddr 1 (some 4) (.tmp 5) (kI 0)), lD 91 90, oO 92 (.iaddr 1 (some 4) (.tmp 5) (kI 1)), lD 93 92, oO 94 (.iaddr 1 (some 4) (.tmp 5) (kI 3)), lD 95 94, lA 96 19 3, oO 97 (.call 47 [(.tmp 91), (.tmp 93), (.tmp 95), (.tmp 96), (kI 4)]), oM 89 97, oO 98 (.extract 0 (.tmp 89)), oO 99 (.extract 1 (.tmp 89)), oO 9 (.alloc (zI 6)), sD 6 9 98, oM 10 99]
def r8_35 : LA := [oM 100 8, oO 101 (.pure (oB (.unOp .not 4 (.tmp 100)) 4)), oM 102 101, oG 103 (.mv (.tmp 10)) 102 false, oG 104 (.pure (oB (.unOp .not 4 (.tmp 103)) 4)) 102 false, oO 105 (.pick (.tmp 102) (.const (.bool true)) (.tmp 104)), oM 106 105, oG 107 (.faddr 0 (.tmp 7)) 106 false, oG 108 (.faddr 0 (.tmp 107)) 106 false, oG 109 (.load false 1 (.tmp 108)) 106 false, oG 110 (.bin .leq 3 (.tmp 109) (kI 0)) 106 false, oO 111 (.pick (.tmp 106) (.const (.bool true)) (.tmp 110)), oM 112 111, oG 113 (.faddr 0 (.tmp 9)) 112 false, oG 114 (.faddr 0 (.tmp 113)) 112 false, oG 115 (.load false 1 (.tmp 114)) 112 false, oG 116 (.bin .leq 3 (.tmp 115) (kI 0)) 112 false, oO 117 (.pick (.tmp 112) (.const (.bool true)) (.tmp 116))]
def r8_38 : LA := [oO 4 (.mv (.const (.bool true)))]
def r8_40 : LA := [oO 119 (.build [(cI 0), (cI 0)] [(0, 1, (kI 10000))]), lA 120 6 7, lA 121 6 9, oO 122 (.build (zI 3) [(1, 1, (kI 1)), (2, 1, (kI 1))]), ⟨(some 123), (.build [(.d (.v (.string ⟨#[]⟩))), (cI 0), (cI 0), (cI 0), (cI 0), (cI 0), (cI 0), (cI 0), (cI 0), (cI 0), (cI 0), (cI 0), (cI 0), (cI 0), (cI 0), (cI 0), (cI 0), (cI 0), (cI 0)] [(0, 1, (.const (.string ⟨#[119, 97, 118, 101]⟩))), (1, 1, (kI 6328)), (2, 2, (.tmp 119)), (4, 6, (.tmp 120)), (10, 6, (.tmp 121)), (16, 3, (.tmp 122))]), none⟩, oO 124 (.call 48 [.tmp 123]), oM 118 124, oO 125 (.extract 0 (.tmp 118)), oO 126 (.extract 1 (.tmp 118)), ⟨(some 11), (.alloc [(.d (.v (.string ⟨#[]⟩))), (cI 0), (cI 0), (cI 0), (cI 0), (cI 0), (cI 0), (cI 0), (cI 0), (cI 0)]), none⟩, sD 10 11 125, oM 12 126]
def r8_43 : LA := [oM 127 12, oO 128 (.bin .neq 28 (.tmp 127) (kI 0))]
def r8_46 : LA := [oO 4 (.mv (.const (.bool false)))]
def r8_48 : LA := [fA 129 4 11, lA 130 2 129, fA 131 6 11, lA 132 2 131, fA 133 8 11, lA 134 2 133, oO 135 (.build (zI 6) [(0, 2, (.tmp 130)), (2, 2, (.tmp 132)), (4, 2, (.tmp 134))]), oO 13 (.alloc (zI 6)), sD 6 13 135]
def r8_50 : LA := [oO 136 (.iaddr 1 (some 4) (.tmp 5) (kI 1)), lD 137 136, oO 138 (.pure (oB (.unOp .neg 3 (.tmp 137)) 3)), oO 139 (.iaddr 1 (some 4) (.tmp 5) (kI 2)), lD 140 139, oO 141 (.iaddr 1 (some 4) (.tmp 5) (kI 3)), lD 142 141, oO 143 (.build (zI 3) [(0, 1, (.tmp 138)), (1, 1, (.tmp 140)), (2, 1, (.tmp 142))]), oO 14 (.alloc (zI 3)), sD 3 14 143]
def r8_53 : LA := [mK 15 0]
def td8_55 : OT := (tO [5, 11, 13, 14, 15])
def r8_58 : LA := [oM 144 15, bK 145 .lss 144 3]
def r8_63 : LA := [oM 148 15, oO 149 (.iaddr 2 (some 3) (.tmp 13) (.tmp 148)), fA 150 0 149, lD 151 150, oM 152 15, oO 153 (.iaddr 2 (some 3) (.tmp 13) (.tmp 152)), fA 154 1 153, lD 155 154, oO 156 (.call 44 [(.tmp 151), (kI (-1048576)), (.tmp 155)]), oO 157 (.pure (oB (.unOp .not 4 (.tmp 156)) 4)), oM 158 157, oG 159 (.mv (.tmp 15)) 158 false, oG 160 (.iaddr 2 (some 3) (.tmp 13) (.tmp 159)) 158 false, oG 161 (.faddr 1 (.tmp 160)) 158 false, oG 162 (.load false 1 (.tmp 161)) 158 false, oG 163 (.bin .gtr 3 (.tmp 162) (kI 1048576)) 158 false, oO 164 (.pick (.tmp 158) (.const (.bool true)) (.tmp 163)), oM 165 164, oG 166 (.mv (.tmp 15)) 165 false, oG 167 (.iaddr 2 (some 3) (.tmp 13) (.tmp 166)) 165 false, oG 168 (.faddr 0 (.tmp 167)) 165 false, oG 169 (.load false 1 (.tmp 168)) 165 false, oG 170 (.iaddr 1 (some 4) (.tmp 5) (kI 0)) 165 false, oG 171 (.load false 1 (.tmp 170)) 165 false, oG 172 (.bin .mul 3 (.tmp 169) (.tmp 171)) 165 false, oG 173 (.mv (.tmp 15)) 165 false, oG 174 (.iaddr 1 (some 3) (.tmp 14) (.tmp 173)) 165 false, oG 175 (.load false 1 (.tmp 174)) 165 false, oG 176 (.bin .mul 3 (.tmp 175) (kI 1048576)) 165 false, oG 177 (.bin .gtr 3 (.tmp 172) (.tmp 176)) 165 false, oO 178 (.pick (.tmp 165) (.const (.bool true)) (.tmp 177)), oM 179 178, oG 180 (.mv (.tmp 15)) 179 false, oG 181 (.iaddr 1 (some 3) (.tmp 14) (.tmp 180)) 179 false, oG 182 (.load false 1 (.tmp 181)) 179 false, oG 183 (.bin .mul 3 (.tmp 182) (kI 1048576)) 179 false, oG 184 (.mv (.tmp 15)) 179 false, oG 185 (.iaddr 2 (some 3) (.tmp 13) (.tmp 184)) 179 false, oG 186 (.faddr 1 (.tmp 185)) 179 false, oG 187 (.load false 1 (.tmp 186)) 179 false, oG 188 (.iaddr 1 (some 4) (.tmp 5) (kI 0)) 179 false, oG 189 (.load false 1 (.tmp 188)) 179 false, oG 190 (.bin .mul 3 (.tmp 187) (.tmp 189)) 179 false, oG 191 (.bin .gtr 3 (.tmp 183) (.tmp 190)) 179 false, oO 192 (.pick (.tmp 179) (.const (.bool true)) (.tmp 191))]
def r8_66 : LA := [oO 4 (.mv (.const (.bool false)))]
def r8_67 : LA := [oM 146 15, bK 147 .add 146 1, oM 15 147]
def r8_69 : LA := [lA 194 10 11, oO 195 (.call 49 [.tmp 194]), oM 193 195, oO 196 (.extract 0 (.tmp 193)), oO 197 (.extract 1 (.tmp 193)), oO 16 (.alloc [(cI 0), (cI 0)]), sD 2 16 196, oM 17 197]
def r8_71 : LA := [lA 199 10 11, oO 200 (.call 50 [.tmp 199]), oM 198 200, oO 201 (.extract 0 (.tmp 198)), oO 202 (.extract 1 (.tmp 198)), oM 18 201, oM 19 202]
def r8_73 : LA := [lA 204 10 11, oO 205 (.call 16 [.tmp 204]), oO 206 (.call 19 [.tmp 205]), oM 203 206, oO 207 (.extract 0 (.tmp 203)), oO 208 (.extract 1 (.tmp 203)), ⟨(some 20), (.alloc [(.d (.v (.string ⟨#[]⟩))), (cI 0), (cI 0), (cI 0), (cI 0), (cI 0), (cI 0), (cI 0), (cI 0), (cI 0)]), none⟩, sD 10 20 207, oM 21 208]
def r8_75 : LA := [oM 209 17, oO 210 (.bin .eql 28 (.tmp 209) (kI 0)), oM 211 210, oG 212 (.faddr 0 (.tmp 16)) 211 true, oG 213 (.load false 1 (.tmp 212)) 211 true, oG 214 (.bin .leq 3 (.tmp 213) (kI 1048576)) 211 true, oO 215 (.pick (.tmp 211) (.tmp 214) (.const (.bool false))), oM 216 215, oG 217 (.faddr 1 (.tmp 16)) 216 true, oG 218 (.load false 1 (.tmp 217)) 216 true, oG 219 (.bin .leq 3 (kI 1048576) (.tmp 218)) 216 true, oO 220 (.pick (.tmp 216) (.tmp 219) (.const (.bool false))), oM 221 220, oG 222 (.mv (.tmp 19)) 221 true, oG 223 (.bin .eql 28 (.tmp 222) (kI 0)) 221 true, oO 224 (.pick (.tmp 221) (.tmp 223) (.const (.bool false))), oM 225 224, oG 226 (.mv (.tmp 18)) 225 true, oG 227 (.bin .neq 3 (.tmp 226) (kI 0)) 225 true, oO 228 (.pick (.tmp 225) (.tmp 227) (.const (.bool false))), oM 229 228, oG 230 (.mv (.tmp 21)) 229 true, oG 231 (.bin .eql 28 (.tmp 230) (kI 0)) 229 true, oO 232 (.pick (.tmp 229) (.tmp 231) (.const (.bool false))), oM 233 232, oG 234 (.load true 10 (.tmp 20)) 233 true, oG 235 (.load true 10 (.tmp 11)) 233 true, oG 236 (.bin .eql 39 (.tmp 234) (.tmp 235)) 233 true, oO 237 (.pick (.tmp 233) (.tmp 236) (.const (.bool false))), oM 4 237]
def tr8 : TG := [tT 0 [2, 3], tT 1 [2, 3, 23], tT 2 [4], tT 3 [2, 3, 51], tT 4 [4], tT 5 [3, 5, 6], tT 6 [3, 5, 74], tT 7 [4], tT 8 [3, 5, 77], tT 9 [4], tT 10 [3, 5, 7, 8], tT 11 [5, 7, 8, 9, 10], tT 12 [5, 7, 9, 117], tT 13 [4], tT 14 [5, 11, 12], tT 15 [5, 11, 128], tT 16 [4], tT 17 [5, 11, 13], tT 18 [5, 11, 13, 14], tT 19 [5, 11, 13, 14, 15], tT 20 [5, 11, 13, 14, 15, 145], tT 22 [5, 11, 13, 14, 15, 192], tT 23 [4], tT 21 [5, 11, 13, 14, 15], tT 24 [11, 16, 17], tT 25 [11, 16, 17, 18, 19], tT 26 [11, 16, 17, 18, 19, 20, 21], tT 27 [4]]
def tl8 : TG := [tT 20 [5, 11, 13, 14, 15]]
def rs8 : List AResV := [.tmp 4]
def p8_0_0 : PT St := pS [sP 2, sP 3, sl 23 (aV false [(cD dB)])] [eBox 2 (xs 4), eBox 3 (xs 19)]
def u8_0_0 {β : Type} (g : St -> β) : Bool -> I23 β := p8_0_0.unc g
def p8_0_1 : PT St := pS [sP 2, sP 3, sl 51 (aV false [(cD dB)])] [eBox 2 (xs 4), eBox 3 (xs 19)]
def u8_0_1 {β : Type} (g : St -> β) : Bool -> I23 β := p8_0_1.unc g
def pr8_0_0 : PT (List RV) := pRs [pR false [rD dB]]
def ur8_0_0 {β : Type} (g : List RV -> β) : Bool -> β := pr8_0_0.unc g
def E8_0g (a : Tf43_0) (b : Tf44_0) (c : Tf46_0) (d : Tf45_0) (e : Tf47_0) (g : Tf47_1) (h : Tf48_0) (i : Tf49_0) (j : Tf50_0) (l : Tf16_0) (m : Tf19_0) : EnvK := EnvK.of [⟨43, nt43, [⟨pa43_0, Fn43_0 a⟩]⟩, ⟨44, nt44, [⟨pa44_0, Fn44_0 b⟩]⟩, ⟨46, nt46, [⟨pa46_0, Fn46_0 c⟩]⟩, ⟨45, nt45, [⟨pa45_0, Fn45_0 d⟩]⟩, ⟨47, nt47, [⟨pa47_0, Fn47_0 e⟩, ⟨pa47_1, Fn47_1 g⟩]⟩, ⟨48, nt48, [⟨pa48_0, Fn48_0 h⟩]⟩, ⟨49, nt49, [⟨pa49_0, Fn49_0 i⟩]⟩, ⟨50, nt50, [⟨pa50_0, Fn50_0 j⟩]⟩, ⟨16, nt16, [⟨pa16_0, Fn16_0 l⟩]⟩, ⟨19, nt19, [⟨pa19_0, Fn19_0 m⟩]⟩] noSeq
def E8_0 : EnvK := E8_0g f43_0 f44_0 f46_0 f45_0 f47_0 f47_1 f48_0 f49_0 f50_0 f16_0 f19_0
theorem eo8_0 : E8_0.Ok Pg := EnvK.of_ok noSeq_ok ⟨⟨io43_0, trivial⟩, ⟨io44_0, trivial⟩, ⟨io46_0, trivial⟩, ⟨io45_0, trivial⟩, ⟨io47_0, io47_1, trivial⟩, ⟨io48_0, trivial⟩, ⟨io49_0, trivial⟩, ⟨io50_0, trivial⟩, ⟨io16_0, trivial⟩, ⟨io19_0, trivial⟩, trivial⟩
def c8_0_10g : MCode := (.region r8_11 [] (tO [2, 3, 51]))
def c8_0_10 : MCode := c8_0_10g
theorem g8_0_10 : c8_0_10.Good Pg E8_0 sh8 := trivial
abbrev TJ8_0_0 : Type 1 := (α : Type) -> Int -> Int -> Int -> Int -> Int -> (Bool -> Op α) -> Op α
def J8_0_0g (a : Tf44_0) (α : Type) (b c d e g : Int) (k1 : Bool -> Op α) : Op α :=
 a α b (-5) 5
 (fun h => cK (!h)
 (k1 true)
 (a α c (-5) 5
 (fun i => cK (!i)
 (k1 true)
 (a α d (-5) 5
 (fun j => cK (!j)
 (k1 true)
 (a α e (-5) 5
 (fun l => cK (!l)
 (k1 true)
 (a α g 1 20
 (fun m => k1 (!m))))))))))
def J8_0_0 (α : Type) (a b c d e : Int) (k1 : Bool -> Op α) : Op α := J8_0_0g f44_0 α a b c d e k1
def F8_0_0 (v : TJ8_0_0) (α : Type) (K : KT α) : Bool -> I23 (Op α) := fun G a b c d g h i j l m o p q r e s t w z A B C D => v α a b c d e (fun F => u8_0_1 (K .normal) F a b c d g h i j l m o p q r e s t w z A B C D)
theorem m8_0_0g (b : Tf43_0) (a : Tf44_0) (c : Tf46_0) (d : Tf45_0) (e : Tf47_0) (g : Tf47_1) (h : Tf48_0) (i : Tf49_0) (j : Tf50_0) (l : Tf16_0) (m : Tf19_0) (α : Type) (K : KT α) : F8_0_0 (J8_0_0g a) α K = p8_0_0.unc fun σ => runM Pg (E8_0g b a c d e g h i j l m) sh8 (c8_0_10g ) K σ := by kernel_rfl
theorem m8_0_0 : ∀ (α : Type) (K : KT α), F8_0_0 J8_0_0 α K = p8_0_0.unc fun σ => runM Pg E8_0 sh8 c8_0_10 K σ := m8_0_0g f43_0 f44_0 f46_0 f45_0 f47_0 f47_1 f48_0 f49_0 f50_0 f16_0 f19_0
abbrev Tf8_0 : Type 1 := (α : Type) -> Int -> Int -> Int -> Int -> Int -> Int -> Int -> Int -> Int -> Int -> Int -> Int -> Int -> Int -> Int -> Int -> Int -> Int -> Int -> Int -> Int -> Int -> Int -> (Bool -> Op α) -> Op α
def f8_0g (Q : TJ8_0_0) (R : Tf16_0) (T : Tf19_0) (U : Tf43_0) (i : Tf44_0) (V : Tf45_0) (t : Tf46_0) (W : Tf47_0) (X : Tf47_1) (Y : Tf48_0) (Z : Tf49_0) (a0 : Tf50_0) (α : Type) (w z A B C D F G H I J L M N q a1 a2 a3 a4 a5 a6 a7 a8 : Int) (k1 : Bool -> Op α) : Op α :=
 U α
 (fun a9 => cK (!a9)
 (k1 false)
 (Q α w z A B q
 (fun b0 => cK b0
 (k1 true)
 (t α w z
 (fun b1 b2 => t α A B
 (fun b3 b4 => V α b1 b2 b3 b4
 (fun a j r s b5 => cK (b5 != 0)
 (k1 false)
 (i α a 0 100
 (fun b6 => cK (!b6)
 (k1 false)
 (cK (a == 0)
 (k1 true)
 (W α a j r C D F G H I J L M N q a1 a2 a3 a4
 (fun O b7 b8 b9 c0 c1 c2 => X α a j s C D F G H I J L M N q a5 a6 a7 a8
 (fun P c3 c4 c5 c6 c7 c8 => cK (!c2)
 (k1 true)
 (cK (!c8)
 (k1 true)
 (cK (decide (O <= 0))
 (k1 true)
 (cK (decide (P <= 0))
 (k1 true)
 (Y α (⟨#[119, 97, 118, 101]⟩ : BA) 6328 10000 0 O b7 b8 b9 c0 c1 P c3 c4 c5 c6 c7 0 1 1
 (fun l m o p e b g c h d c9 => cK (c9 != 0)
 (k1 false)
 (i α e (-1048576) b
 (fun d0 => cK (!d0)
 (k1 false)
 (cK (decide (1048576 < b))
 (k1 false)
 (cK (decide ((w64 ((w64 (0 - j)) * 1048576)) < (w64 (e * a))))
 (k1 false)
 (cK (decide ((w64 (b * a)) < (w64 ((w64 (0 - j)) * 1048576))))
 (k1 false)
 (i α g (-1048576) c
 (fun d1 => cK (!d1)
 (k1 false)
 (cK (decide (1048576 < c))
 (k1 false)
 (cK (decide ((w64 (r * 1048576)) < (w64 (g * a))))
 (k1 false)
 (cK (decide ((w64 (c * a)) < (w64 (r * 1048576))))
 (k1 false)
 (i α h (-1048576) d
 (fun d2 => cK (!d2)
 (k1 false)
 (cK (decide (1048576 < d))
 (k1 false)
 (cK (decide ((w64 (s * 1048576)) < (w64 (h * a))))
 (k1 false)
 (cK (decide ((w64 (d * a)) < (w64 (s * 1048576))))
 (k1 false)
 (Z α l m o p e b g c h d
 (fun d3 d4 d5 => a0 α l m o p e b g c h d
 (fun d6 d7 => R α l m o p e b g c h d
 (fun d8 => T α d8
 (fun d9 e0 e1 e2 e3 e4 e5 e6 e7 e8 e9 => cK (d5 == 0)
 (cK (decide (d3 <= 1048576))
 (cK (decide (1048576 <= d4))
 (cK (d7 == 0)
 (cK (d6 != 0)
 (cK (e9 == 0)
 (k1 ((d9 == l) && ((e0 == m) && (((e1 == o) && ((e2 == p) && true)) && (((e3 == e) && ((e4 == b) && true)) && (((e5 == g) && ((e6 == c) && true)) && (((e7 == h) && ((e8 == d) && true)) && true)))))))
 (k1 false))
 (k1 false))
 (k1 false))
 (k1 false))
 (k1 false))
 (k1 false)))))))))))))))))))))))))))))))))))))))
def f8_0 (α : Type) (a b c d e g h i j l m o p q r s t w z A B C D : Int) (k1 : Bool -> Op α) : Op α := f8_0g J8_0_0 f16_0 f19_0 f43_0 f44_0 f45_0 f46_0 f47_0 f47_1 f48_0 f49_0 f50_0 α a b c d e g h i j l m o p q r s t w z A B C D k1
def pa8_0 : PT (List DV) := pA [pV true [(dI .i64), (dI .i64), (dI .i64), (dI .i64)], pV true [(dI .i64), (dI .i64), (dI .i64), (dI .i64), (dI .i64), (dI .i64), (dI .i64), (dI .i64), (dI .i64), (dI .i64), (dI .i64), (dI .i64), (dI .i64), (dI .i64), (dI .i64), (dI .i64), (dI .i64), (dI .i64), (dI .i64)]]
def Fn8_0 (v : Tf8_0) (α : Type) (k : RT α) : I23 (Op α) := fun a b c d e g h i j l m o p q r s t w z A B C D => v α a b c d e g h i j l m o p q r s t w z A B C D (fun F => ur8_0_0 k F)
def cm8_0g (a : TJ8_0_0) : MCode := (.seq (.region r8_2 [] (tO [2, 3])) (.seq (.seq (.region r8_5 [] (tO [2, 3, 23])) (.cond (.tmp 23) (.seq (.region r8_8 [] (tO [4])) .ret) .skip)) (.seq (.seq (.mark [⟨p8_0_0, F8_0_0 a⟩] c8_0_10) (.cond (.tmp 51) (.seq (.region r8_14 [] (tO [4])) .ret) .skip)) (.seq (.region r8_16 [(4, 6), (4, 8), (1, 15), (3, 15), (4, 15), (6, 15), (8, 15), (9, 15), (11, 15)] (tO [3, 5, 6])) (.seq (.seq (.region r8_19 [] (tO [3, 5, 74])) (.cond (.tmp 74) (.seq (.region r8_22 [] (tO [4])) .ret) .skip)) (.seq (.seq (.region r8_25 [] (tO [3, 5, 77])) (.cond (.tmp 77) (.seq (.region r8_28 [] (tO [4])) .ret) .skip)) (.seq (.region r8_30 [] (tO [3, 5, 7, 8])) (.seq (.region r8_32 [] (tO [5, 7, 8, 9, 10])) (.seq (.seq (.region r8_35 [] (tO [5, 7, 9, 117])) (.cond (.tmp 117) (.seq (.region r8_38 [] (tO [4])) .ret) .skip)) (.seq (.region r8_40 [] (tO [5, 11, 12])) (.seq (.seq (.region r8_43 [] (tO [5, 11, 128])) (.cond (.tmp 128) (.seq (.region r8_46 [] (tO [4])) .ret) .skip)) (.seq (.region r8_48 [] (tO [5, 11, 13])) (.seq (.region r8_50 [] (tO [5, 11, 13, 14])) (.seq (.seq (.region r8_53 [] (tO [5, 11, 13, 14, 15])) (.block 0 (.loopU 4 td8_55 (.seq (.seq (.region r8_58 [] (tO [5, 11, 13, 14, 15, 145])) (.cond (.tmp 145) .skip (.exit 0))) (.seq (.block 1 (.seq (.region r8_63 [] (tO [5, 11, 13, 14, 15, 192])) (.cond (.tmp 192) (.seq (.region r8_66 [] (tO [4])) .ret) .skip))) (.region r8_67 [] (tO [5, 11, 13, 14, 15]))))))) (.seq (.region r8_69 [] (tO [11, 16, 17])) (.seq (.region r8_71 [] (tO [11, 16, 17, 18, 19])) (.seq (.region r8_73 [] (tO [11, 16, 17, 18, 19, 20, 21])) (.seq (.region r8_75 [] (tO [4])) .ret))))))))))))))))))
def cm8_0 : MCode := cm8_0g J8_0_0
theorem gm8_0 : cm8_0.Good Pg E8_0 sh8 := ⟨trivial, ⟨⟨trivial, ⟨⟨trivial, trivial⟩, trivial⟩⟩, ⟨⟨⟨g8_0_10, m8_0_0, trivial⟩, ⟨⟨trivial, trivial⟩, trivial⟩⟩, ⟨trivial, ⟨⟨trivial, ⟨⟨trivial, trivial⟩, trivial⟩⟩, ⟨⟨trivial, ⟨⟨trivial, trivial⟩, trivial⟩⟩, ⟨trivial, ⟨trivial, ⟨⟨trivial, ⟨⟨trivial, trivial⟩, trivial⟩⟩, ⟨trivial, ⟨⟨trivial, ⟨⟨trivial, trivial⟩, trivial⟩⟩, ⟨trivial, ⟨trivial, ⟨⟨trivial, ⟨⟨⟨trivial, ⟨trivial, trivial⟩⟩, ⟨⟨trivial, ⟨⟨trivial, trivial⟩, trivial⟩⟩, trivial⟩⟩, by decide⟩⟩, ⟨trivial, ⟨trivial, ⟨trivial, ⟨trivial, trivial⟩⟩⟩⟩⟩⟩⟩⟩⟩⟩⟩⟩⟩⟩⟩⟩⟩⟩
theorem fm8_0g (a : Tf43_0) (b : Tf44_0) (c : Tf46_0) (d : Tf45_0) (e : Tf47_0) (g : Tf47_1) (h : Tf48_0) (i : Tf49_0) (j : Tf50_0) (l : Tf16_0) (m : Tf19_0) (o : TJ8_0_0) (α : Type) (k : RT α) : Fn8_0 (f8_0g o l m a b d c e g h i j) α k = pa8_0.unc fun ds => fnM Pg (E8_0g a b c d e g h i j l m) sh8 (cm8_0g o) rs8 k ds := by kernel_rfl
theorem fm8_0 : ∀ (α : Type) (k : RT α), Fn8_0 f8_0 α k = pa8_0.unc fun ds => fnM Pg E8_0 sh8 cm8_0 rs8 k ds := fm8_0g f43_0 f44_0 f46_0 f45_0 f47_0 f47_1 f48_0 f49_0 f50_0 f16_0 f19_0 J8_0_0
theorem is8 : FnIs Pg 8 nt8 tr8 tl8 cm8_0.erase rs8 := ⟨Tryz.f8, Tryz.func8, rfl, by kernel_rfl, by kernel_rfl, by kernel_rfl⟩
theorem io8_0 : InstOk Pg 8 nt8 ⟨pa8_0, Fn8_0 f8_0⟩ := inst_ok eo8_0 followsTry is8 ⟨⟨sh8, cm8_0, by kernel_rfl, gm8_0, fm8_0⟩⟩
end
end Go.AM.K
