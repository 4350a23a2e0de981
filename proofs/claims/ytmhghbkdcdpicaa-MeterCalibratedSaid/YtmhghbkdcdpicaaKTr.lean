/- Printed by KGen. -/
import Derived.Test.YtmhghbkdcdpicaaKTu
import Derived.Test.YtmhghbkdcdpicaaSMC1
namespace Go.AM.K
open Go.Proofs
set_option maxRecDepth 100000
set_option linter.unusedVariables false
abbrev nt12 : Nat := 57
def sh12 : List (Nat × List Sh) := [(7, [.int .i64]), (10, [.int .i64]), (15, [.int .i64]), (18, [.int .i64]), (24, [.int .i64]), (27, [.int .i64]), (33, [.int .i64]), (36, [.int .i64]), (42, [.int .i64]), (45, [.int .i64]), (51, [.int .i64]), (54, [.int .i64])]
def r12_2 : List AOper := [oO 2 (.box (.tmp 0)), oO 3 (.box (.tmp 1)), oO 4 (.mv (.const (.bool false)))]
def r12_4 : List AOper := [oO 5 (.faddr 0 (.tmp 3)), oO 6 (.faddr 0 (.tmp 5)), oO 7 (.load false 1 (.tmp 6)), oO 8 (.faddr 0 (.tmp 2)), oO 9 (.faddr 0 (.tmp 8)), oO 10 (.load false 1 (.tmp 9)), oO 11 (.bin .leq 3 (.tmp 7) (.tmp 10)), oM 12 11, oG 13 (.faddr 0 (.tmp 2)) 12 true, oG 14 (.faddr 1 (.tmp 13)) 12 true, oG 15 (.load false 1 (.tmp 14)) 12 true, oG 16 (.faddr 0 (.tmp 3)) 12 true, oG 17 (.faddr 1 (.tmp 16)) 12 true, oG 18 (.load false 1 (.tmp 17)) 12 true, oG 19 (.bin .leq 3 (.tmp 15) (.tmp 18)) 12 true, oO 20 (.pick (.tmp 12) (.tmp 19) (.const (.bool false))), oM 21 20, oG 22 (.faddr 2 (.tmp 3)) 21 true, oG 23 (.faddr 0 (.tmp 22)) 21 true, oG 24 (.load false 1 (.tmp 23)) 21 true, oG 25 (.faddr 2 (.tmp 2)) 21 true, oG 26 (.faddr 0 (.tmp 25)) 21 true, oG 27 (.load false 1 (.tmp 26)) 21 true, oG 28 (.bin .leq 3 (.tmp 24) (.tmp 27)) 21 true, oO 29 (.pick (.tmp 21) (.tmp 28) (.const (.bool false))), oM 30 29, oG 31 (.faddr 2 (.tmp 2)) 30 true, oG 32 (.faddr 1 (.tmp 31)) 30 true, oG 33 (.load false 1 (.tmp 32)) 30 true, oG 34 (.faddr 2 (.tmp 3)) 30 true, oG 35 (.faddr 1 (.tmp 34)) 30 true, oG 36 (.load false 1 (.tmp 35)) 30 true, oG 37 (.bin .leq 3 (.tmp 33) (.tmp 36)) 30 true, oO 38 (.pick (.tmp 30) (.tmp 37) (.const (.bool false))), oM 39 38, oG 40 (.faddr 4 (.tmp 3)) 39 true, oG 41 (.faddr 0 (.tmp 40)) 39 true, oG 42 (.load false 1 (.tmp 41)) 39 true, oG 43 (.faddr 4 (.tmp 2)) 39 true, oG 44 (.faddr 0 (.tmp 43)) 39 true, oG 45 (.load false 1 (.tmp 44)) 39 true, oG 46 (.bin .leq 3 (.tmp 42) (.tmp 45)) 39 true, oO 47 (.pick (.tmp 39) (.tmp 46) (.const (.bool false))), oM 48 47, oG 49 (.faddr 4 (.tmp 2)) 48 true, oG 50 (.faddr 1 (.tmp 49)) 48 true, oG 51 (.load false 1 (.tmp 50)) 48 true, oG 52 (.faddr 4 (.tmp 3)) 48 true, oG 53 (.faddr 1 (.tmp 52)) 48 true, oG 54 (.load false 1 (.tmp 53)) 48 true, oG 55 (.bin .leq 3 (.tmp 51) (.tmp 54)) 48 true, oO 56 (.pick (.tmp 48) (.tmp 55) (.const (.bool false))), oM 4 56]
def tr12 : List (Nat × Tidy) := [tT 0 [2, 3], tT 1 [4]]
def tl12 : List (Nat × Tidy) := []
def rs12 : List AResV := [.tmp 4]
def pr12_0_0 : PT (List RV) := pRs [pR false [rD dB]]
def ur12_0_0 {β : Type} (g : List RV → β) : Bool → β := pr12_0_0.unc g
def E12_0g  : EnvK := EnvK.of [] noSeq
noncomputable def E12_0 : EnvK := E12_0g 
theorem eo12_0 : E12_0.Ok Try.prog := EnvK.of_ok noSeq_ok trivial
abbrev Tf12_0 : Type 1 := (α : Type) → Int → Int → Int → Int → Int → Int → Int → Int → Int → Int → Int → Int → (Bool → Option α) → Option α
def f12_0g  (α : Type) (x1 x2 x3 x4 x5 x6 x7 x8 x9 x10 x11 x12 : Int) (k1 : Bool → Option α) : Option α :=
 cK (decide (x7 ≤ x1))
 (cK (decide (x2 ≤ x8))
 (cK (decide (x9 ≤ x3))
 (cK (decide (x4 ≤ x10))
 (cK (decide (x11 ≤ x5))
 (k1 (decide (x6 ≤ x12)))
 (k1 false))
 (k1 false))
 (k1 false))
 (k1 false))
 (k1 false)
noncomputable def f12_0 (α : Type) (x1 x2 x3 x4 x5 x6 x7 x8 x9 x10 x11 x12 : Int) (k1 : Bool → Option α) : Option α := f12_0g  α x1 x2 x3 x4 x5 x6 x7 x8 x9 x10 x11 x12 k1
def pa12_0 : PT (List DV) := pA [pV true [(dI .i64), (dI .i64), (dI .i64), (dI .i64), (dI .i64), (dI .i64)], pV true [(dI .i64), (dI .i64), (dI .i64), (dI .i64), (dI .i64), (dI .i64)]]
def Fn12_0 (v : Tf12_0) (α : Type) (k : List RV → Option α) : Int → Int → Int → Int → Int → Int → Int → Int → Int → Int → Int → Int → Option α := fun x1 x2 x3 x4 x5 x6 x7 x8 x9 x10 x11 x12 => v α x1 x2 x3 x4 x5 x6 x7 x8 x9 x10 x11 x12 (fun (y1 : Bool) => ur12_0_0 k y1)
noncomputable def cm12_0g  : MCode := (.seq (.region r12_2 [] (tO [2, 3])) (.seq (.region r12_4 [] (tO [4])) .ret))
noncomputable def cm12_0 : MCode := cm12_0g 
theorem gm12_0 : cm12_0.Good Try.prog E12_0 sh12 := ⟨trivial, ⟨trivial, trivial⟩⟩
theorem fm12_0g   (α : Type) (k : List RV → Option α) : Fn12_0 (f12_0g ) α k = pa12_0.unc fun ds => fnM Try.prog (E12_0g ) sh12 (cm12_0g ) rs12 k ds := by kernel_rfl
theorem fm12_0 : ∀ (α : Type) (k : List RV → Option α), Fn12_0 f12_0 α k = pa12_0.unc fun ds => fnM Try.prog E12_0 sh12 cm12_0 rs12 k ds := fm12_0g 
theorem is12 : FnIs Try.prog 12 nt12 tr12 tl12 cm12_0.erase rs12 := ⟨Try.f12, Try.func12, rfl, by kernel_rfl, by kernel_rfl, by kernel_rfl⟩
theorem io12_0 : InstOk Try.prog 12 nt12 ⟨pa12_0, Fn12_0 f12_0⟩ := inst_ok eo12_0 followsTry is12 ⟨⟨sh12, cm12_0, by kernel_rfl, gm12_0, fm12_0⟩⟩
abbrev nt57 : Nat := 10
def sh57 : List (Nat × List Sh) := [(4, [.int .i64, .int .i64]), (6, [.int .i64, .int .i64]), (8, [.int .i64, .int .i64])]
def r57_2 : List AOper := [oO 1 (.box (.tmp 0)), oO 2 (.alloc [(cI 0), (cI 0), (cI 0), (cI 0), (cI 0), (cI 0)])]
def r57_4 : List AOper := [oO 3 (.faddr 0 (.tmp 1)), oO 4 (.load true 2 (.tmp 3)), oO 5 (.faddr 2 (.tmp 1)), oO 6 (.load true 2 (.tmp 5)), oO 7 (.faddr 4 (.tmp 1)), oO 8 (.load true 2 (.tmp 7)), oO 9 (.build [(cI 0), (cI 0), (cI 0), (cI 0), (cI 0), (cI 0)] [(0, 2, (.tmp 4)), (2, 2, (.tmp 6)), (4, 2, (.tmp 8))]), oD (.store 6 (.tmp 2) (.tmp 9))]
def tr57 : List (Nat × Tidy) := [tT 0 [1, 2], tT 1 [2]]
def tl57 : List (Nat × Tidy) := []
def rs57 : List AResV := [.cell 2 true 6]
def pr57_0_0 : PT (List RV) := pRs [pR true [rD (dI .i64), rD (dI .i64), rD (dI .i64), rD (dI .i64), rD (dI .i64), rD (dI .i64)]]
def ur57_0_0 {β : Type} (g : List RV → β) : Int → Int → Int → Int → Int → Int → β := pr57_0_0.unc g
def E57_0g  : EnvK := EnvK.of [] noSeq
noncomputable def E57_0 : EnvK := E57_0g 
theorem eo57_0 : E57_0.Ok Try.prog := EnvK.of_ok noSeq_ok trivial
abbrev Tf57_0 : Type 1 := (α : Type) → Int → Int → Int → Int → Int → Int → (Int → Int → Int → Int → Int → Int → Option α) → Option α
def f57_0g  (α : Type) (x1 x2 x3 x4 x5 x6 : Int) (k1 : Int → Int → Int → Int → Int → Int → Option α) : Option α :=
 k1 x1 x2 x3 x4 x5 x6
noncomputable def f57_0 (α : Type) (x1 x2 x3 x4 x5 x6 : Int) (k1 : Int → Int → Int → Int → Int → Int → Option α) : Option α := f57_0g  α x1 x2 x3 x4 x5 x6 k1
def pa57_0 : PT (List DV) := pA [pV true [(dI .i64), (dI .i64), (dI .i64), (dI .i64), (dI .i64), (dI .i64)]]
def Fn57_0 (v : Tf57_0) (α : Type) (k : List RV → Option α) : Int → Int → Int → Int → Int → Int → Option α := fun x1 x2 x3 x4 x5 x6 => v α x1 x2 x3 x4 x5 x6 (fun (y1 : Int) (y2 : Int) (y3 : Int) (y4 : Int) (y5 : Int) (y6 : Int) => ur57_0_0 k y1 y2 y3 y4 y5 y6)
noncomputable def cm57_0g  : MCode := (.seq (.region r57_2 [] (tO [1, 2])) (.seq (.region r57_4 [] (tO [2])) .ret))
noncomputable def cm57_0 : MCode := cm57_0g 
theorem gm57_0 : cm57_0.Good Try.prog E57_0 sh57 := ⟨trivial, ⟨trivial, trivial⟩⟩
theorem fm57_0g   (α : Type) (k : List RV → Option α) : Fn57_0 (f57_0g ) α k = pa57_0.unc fun ds => fnM Try.prog (E57_0g ) sh57 (cm57_0g ) rs57 k ds := by kernel_rfl
theorem fm57_0 : ∀ (α : Type) (k : List RV → Option α), Fn57_0 f57_0 α k = pa57_0.unc fun ds => fnM Try.prog E57_0 sh57 cm57_0 rs57 k ds := fm57_0g 
theorem is57 : FnIs Try.prog 57 nt57 tr57 tl57 cm57_0.erase rs57 := ⟨Try.f57, Try.func57, rfl, by kernel_rfl, by kernel_rfl, by kernel_rfl⟩
theorem io57_0 : InstOk Try.prog 57 nt57 ⟨pa57_0, Fn57_0 f57_0⟩ := inst_ok eo57_0 followsTry is57 ⟨⟨sh57, cm57_0, by kernel_rfl, gm57_0, fm57_0⟩⟩
abbrev nt48 : Nat := 23
def sh48 : List (Nat × List Sh) := []
def r48_2 : List AOper := [oO 4 (.mv (kI 0))]
def r48_4 : List AOper := [oM 6 0, oM 7 1, oO 8 (.bin .quo 3 (.tmp 6) (.tmp 7)), oM 5 8]
def r48_7 : List AOper := [oM 9 0, oM 10 1, oO 11 (.bin .rem 3 (.tmp 9) (.tmp 10)), oO 12 (.bin .neq 3 (.tmp 11) (kI 0)), oM 13 12, oG 14 (.mv (.tmp 0)) 13 true, oG 15 (.bin .lss 3 (.tmp 14) (kI 0)) 13 true, oG 16 (.mv (.tmp 1)) 13 true, oG 17 (.bin .lss 3 (.tmp 16) (kI 0)) 13 true, oG 18 (.bin .neq 4 (.tmp 15) (.tmp 17)) 13 true, oO 19 (.pick (.tmp 13) (.tmp 18) (.const (.bool false)))]
def r48_9 : List AOper := [oM 20 5, oO 21 (.bin .sub 3 (.tmp 20) (kI 1)), oM 5 21]
def r48_11 : List AOper := [oM 22 5, oM 4 22]
def tr48 : List (Nat × Tidy) := [tT 0 [0, 1], tT 1 [0, 1, 5], tT 2 [5, 19], tT 3 [5], tT 4 [4]]
def tl48 : List (Nat × Tidy) := []
def rs48 : List AResV := [.tmp 4]
def pr48_0_0 : PT (List RV) := pRs [pR false [rD (dI .i64)]]
def ur48_0_0 {β : Type} (g : List RV → β) : Int → β := pr48_0_0.unc g
def E48_0g  : EnvK := EnvK.of [] noSeq
noncomputable def E48_0 : EnvK := E48_0g 
theorem eo48_0 : E48_0.Ok Try.prog := EnvK.of_ok noSeq_ok trivial
abbrev Tf48_0 : Type 1 := (α : Type) → Int → Int → (Int → Option α) → Option α
def f48_0g  (α : Type) (x1 x2 : Int) (k1 : Int → Option α) : Option α :=
 gK (x2 != 0) (gK (x2 != 0) (cK ((Int.tmod x1 x2) != 0)
 (cK (!((decide (x1 < 0)) == (decide (x2 < 0))))
 (k1 (w64 ((w64 (Int.tdiv x1 x2)) - 1)))
 (k1 (w64 (Int.tdiv x1 x2))))
 (k1 (w64 (Int.tdiv x1 x2)))))
noncomputable def f48_0 (α : Type) (x1 x2 : Int) (k1 : Int → Option α) : Option α := f48_0g  α x1 x2 k1
def pa48_0 : PT (List DV) := pA [pV false [(dI .i64)], pV false [(dI .i64)]]
def Fn48_0 (v : Tf48_0) (α : Type) (k : List RV → Option α) : Int → Int → Option α := fun x1 x2 => v α x1 x2 (fun (y1 : Int) => ur48_0_0 k y1)
noncomputable def cm48_0g  : MCode := (.seq (.region r48_2 [] (tO [0, 1])) (.seq (.region r48_4 [] (tO [0, 1, 5])) (.seq (.seq (.region r48_7 [] (tO [5, 19])) (.cond (.tmp 19) (.region r48_9 [] (tO [5])) .skip)) (.seq (.region r48_11 [] (tO [4])) .ret))))
noncomputable def cm48_0 : MCode := cm48_0g 
theorem gm48_0 : cm48_0.Good Try.prog E48_0 sh48 := ⟨trivial, ⟨trivial, ⟨⟨trivial, ⟨trivial, trivial⟩⟩, ⟨trivial, trivial⟩⟩⟩⟩
theorem fm48_0g   (α : Type) (k : List RV → Option α) : Fn48_0 (f48_0g ) α k = pa48_0.unc fun ds => fnM Try.prog (E48_0g ) sh48 (cm48_0g ) rs48 k ds := by kernel_rfl
theorem fm48_0 : ∀ (α : Type) (k : List RV → Option α), Fn48_0 f48_0 α k = pa48_0.unc fun ds => fnM Try.prog E48_0 sh48 cm48_0 rs48 k ds := fm48_0g 
theorem is48 : FnIs Try.prog 48 nt48 tr48 tl48 cm48_0.erase rs48 := ⟨Try.f48, Try.func48, rfl, by kernel_rfl, by kernel_rfl, by kernel_rfl⟩
theorem io48_0 : InstOk Try.prog 48 nt48 ⟨pa48_0, Fn48_0 f48_0⟩ := inst_ok eo48_0 followsTry is48 ⟨⟨sh48, cm48_0, by kernel_rfl, gm48_0, fm48_0⟩⟩
abbrev nt32 : Nat := 15
def sh32 : List (Nat × List Sh) := []
def r32_2 : List AOper := [oO 4 (.mv (kI 0))]
def td32_5 : Option Tidy := (tO [0, 1])
def r32_8 : List AOper := [oM 5 1, oO 6 (.bin .neq 3 (.tmp 5) (kI 0))]
def r32_11 : List AOper := [oM 7 1, oM 8 0, oM 9 1, oO 10 (.bin .rem 3 (.tmp 8) (.tmp 9)), oM 0 7, oM 1 10]
def r32_13 : List AOper := [oM 11 0, oM 12 0, oO 13 (.pure (oB (.unOp .neg 3 (.tmp 12)) 3)), oO 14 (.pure (oB (.call { callee := .builtin .max, args := #[(.tmp 11), (.tmp 13)], argTypes := #[3, 3] }) 3)), oM 4 14]
def tr32 : List (Nat × Tidy) := [tT 0 [0, 1], tT 1 [0, 1, 6], tT 2 [0, 1], tT 3 [4]]
def tl32 : List (Nat × Tidy) := [tT 1 [0, 1]]
def rs32 : List AResV := [.tmp 4]
def p32_0_0 : PT St := pS [sl 0 (aV false [(cD (dI .i64))]), sl 1 (aV false [(cD (dI .i64))])] []
def u32_0_0 {β : Type} (g : St → β) : Int → Int → β := p32_0_0.unc g
def p32_0_1 : PT St := pS [sl 0 (aV false [(cD (dI .i64))]), sl 1 (aV false [(cD (dI .i64))]), sl 6 (aV false [(cD dB)])] []
def u32_0_1 {β : Type} (g : St → β) : Int → Int → Bool → β := p32_0_1.unc g
def pr32_0_0 : PT (List RV) := pRs [pR false [rD (dI .i64)]]
def ur32_0_0 {β : Type} (g : List RV → β) : Int → β := pr32_0_0.unc g
def E32_0g  : EnvK := EnvK.of [] noSeq
noncomputable def E32_0 : EnvK := E32_0g 
theorem eo32_0 : E32_0.Ok Try.prog := EnvK.of_ok noSeq_ok trivial
noncomputable def c32_0_5g  : MCode := (.seq (.seq (.region r32_8 [] (tO [0, 1, 6])) (.cond (.tmp 6) .skip (.exit 0))) (.block 1 (.region r32_11 [] (tO [0, 1]))))
noncomputable def c32_0_5 : MCode := c32_0_5g 
theorem g32_0_5 : c32_0_5.Good Try.prog E32_0 sh32 := ⟨⟨trivial, ⟨trivial, trivial⟩⟩, trivial⟩
--CODE 5 0
def S32_0_0g  (α : Type)  (x3 x4 : Int) (kn : Int → Int → Option α) (k1 : Int → Int → Bool → Option α) : Option α :=
 cK (x4 != 0)
 (gK (x4 != 0) (kn x4 (Int.tmod x3 x4)))
 (k1 x3 x4 (x4 != 0))
noncomputable def S32_0_0 (α : Type)  (x3 x4 : Int) (kn : Int → Int → Option α) (k1 : Int → Int → Bool → Option α) : Option α := S32_0_0g  α  x3 x4 kn k1
noncomputable def R32_0_0 (α : Type)  (k1 : Int → Int → Bool → Option α) : Nat → Int → Int → Option α
 | 0, _, _ => none
 | n + 1, x3, x4 => S32_0_0 α  x3 x4 (R32_0_0 α  k1 n) k1
noncomputable def L32_0_0 (α : Type)  (k1 : Int → Int → Bool → Option α) (x3 x4 : Int) : Option α := R32_0_0 α  k1 fuel x3 x4
abbrev TL32_0_0 : Type 1 := (α : Type) → (Int → Int → Bool → Option α) → Int → Int → Option α
def F32_0_0 (v : TL32_0_0) (α : Type) (K : Exit → St → Option α) : Int → Int → Option α := fun x3 x4 => v α  (fun (y1 : Int) (y2 : Int) (y3 : Bool) => u32_0_1 (K (.exit 0)) y1 y2 y3) x3 x4
theorem r32_0_0g   (α : Type) (K : Exit → St → Option α) (Kn : St → Option α) (x3 x4 : Int) : u32_0_0 (fun σ => runM Try.prog (E32_0g ) sh32 (c32_0_5g ) (thenK (fun σ => tidyK td32_5 σ Kn) K) σ) x3 x4 = S32_0_0g  α  x3 x4 (fun x3 x4 => u32_0_0 Kn x3 x4) (fun (y1 : Int) (y2 : Int) (y3 : Bool) => u32_0_1 (K (.exit 0)) y1 y2 y3) := by kernel_rfl
theorem r32_0_0 (α : Type) (K : Exit → St → Option α) (Kn : St → Option α) (x3 x4 : Int) : u32_0_0 (fun σ => runM Try.prog E32_0 sh32 c32_0_5 (thenK (fun σ => tidyK td32_5 σ Kn) K) σ) x3 x4 = S32_0_0 α  x3 x4 (fun x3 x4 => u32_0_0 Kn x3 x4) (fun (y1 : Int) (y2 : Int) (y3 : Bool) => u32_0_1 (K (.exit 0)) y1 y2 y3) := r32_0_0g  α K Kn x3 x4
theorem t32_0_0 (α : Type) (K : Exit → St → Option α) : ∀ (n : Nat) (x3 x4 : Int), R32_0_0 α  (fun (y1 : Int) (y2 : Int) (y3 : Bool) => u32_0_1 (K (.exit 0)) y1 y2 y3) n x3 x4 = u32_0_0 (loopT (runM Try.prog E32_0 sh32 c32_0_5) td32_5 K n) x3 x4 := by
 intro n
 induction n with
 | zero => intros; rfl
 | succ n ih => intro x3 x4; exact (congrArg (fun kn => S32_0_0 α  x3 x4 kn (fun (y1 : Int) (y2 : Int) (y3 : Bool) => u32_0_1 (K (.exit 0)) y1 y2 y3)) (funext fun x3 => funext fun x4 => ih x3 x4)).trans (r32_0_0 α K (loopT (runM Try.prog E32_0 sh32 c32_0_5) td32_5 K n) x3 x4).symm
theorem m32_0_0 : ∀ (α : Type) (K : Exit → St → Option α), F32_0_0 L32_0_0 α K = p32_0_0.unc fun σ => loopT (runM Try.prog E32_0 sh32 c32_0_5) td32_5 K fuel σ := fun α K => funext fun x3 => funext fun x4 => t32_0_0 α K fuel x3 x4
abbrev Tf32_0 : Type 1 := (α : Type) → Int → Int → (Int → Option α) → Option α
def f32_0g (vL32_0_0 : TL32_0_0) (α : Type) (x1 x2 : Int) (k1 : Int → Option α) : Option α :=
 vL32_0_0 α
 (fun x6 x7 x8 => k1 (if (w64 (0 - x6)) > x6 then (w64 (0 - x6)) else x6)) x1 x2
noncomputable def f32_0 (α : Type) (x1 x2 : Int) (k1 : Int → Option α) : Option α := f32_0g L32_0_0 α x1 x2 k1
def pa32_0 : PT (List DV) := pA [pV false [(dI .i64)], pV false [(dI .i64)]]
def Fn32_0 (v : Tf32_0) (α : Type) (k : List RV → Option α) : Int → Int → Option α := fun x1 x2 => v α x1 x2 (fun (y1 : Int) => ur32_0_0 k y1)
noncomputable def cm32_0g (vL32_0_0 : TL32_0_0) : MCode := (.seq (.region r32_2 [] (tO [0, 1])) (.seq (.block 0 (.loop td32_5 [⟨p32_0_0, F32_0_0 vL32_0_0⟩] c32_0_5)) (.seq (.region r32_13 [] (tO [4])) .ret)))
noncomputable def cm32_0 : MCode := cm32_0g L32_0_0
theorem gm32_0 : cm32_0.Good Try.prog E32_0 sh32 := ⟨trivial, ⟨⟨g32_0_5, m32_0_0, trivial⟩, ⟨trivial, trivial⟩⟩⟩
theorem fm32_0g  (vL32_0_0 : TL32_0_0) (α : Type) (k : List RV → Option α) : Fn32_0 (f32_0g vL32_0_0) α k = pa32_0.unc fun ds => fnM Try.prog (E32_0g ) sh32 (cm32_0g vL32_0_0) rs32 k ds := by kernel_rfl
theorem fm32_0 : ∀ (α : Type) (k : List RV → Option α), Fn32_0 f32_0 α k = pa32_0.unc fun ds => fnM Try.prog E32_0 sh32 cm32_0 rs32 k ds := fm32_0g L32_0_0
theorem is32 : FnIs Try.prog 32 nt32 tr32 tl32 cm32_0.erase rs32 := ⟨Try.f32, Try.func32, rfl, by kernel_rfl, by kernel_rfl, by kernel_rfl⟩
theorem io32_0 : InstOk Try.prog 32 nt32 ⟨pa32_0, Fn32_0 f32_0⟩ := inst_ok eo32_0 followsTry is32 ⟨⟨sh32, cm32_0, by kernel_rfl, gm32_0, fm32_0⟩⟩
abbrev nt62 : Nat := 15
def sh62 : List (Nat × List Sh) := []
def r62_2 : List AOper := [oO 6 (.mv (.const (.bool false)))]
def r62_4 : List AOper := [oM 7 1, oM 8 0, oO 9 (.bin .leq 3 (.tmp 7) (.tmp 8)), oM 10 9, oG 11 (.mv (.tmp 0)) 10 true, oG 12 (.mv (.tmp 2)) 10 true, oG 13 (.bin .leq 3 (.tmp 11) (.tmp 12)) 10 true, oO 14 (.pick (.tmp 10) (.tmp 13) (.const (.bool false))), oM 6 14]
def tr62 : List (Nat × Tidy) := [tT 0 [0, 1, 2], tT 1 [6]]
def tl62 : List (Nat × Tidy) := []
def rs62 : List AResV := [.tmp 6]
def pr62_0_0 : PT (List RV) := pRs [pR false [rD dB]]
def ur62_0_0 {β : Type} (g : List RV → β) : Bool → β := pr62_0_0.unc g
def E62_0g  : EnvK := EnvK.of [] noSeq
noncomputable def E62_0 : EnvK := E62_0g 
theorem eo62_0 : E62_0.Ok Try.prog := EnvK.of_ok noSeq_ok trivial
abbrev Tf62_0 : Type 1 := (α : Type) → Int → Int → Int → (Bool → Option α) → Option α
def f62_0g  (α : Type) (x1 x2 x3 : Int) (k1 : Bool → Option α) : Option α :=
 cK (decide (x2 ≤ x1))
 (k1 (decide (x1 ≤ x3)))
 (k1 false)
noncomputable def f62_0 (α : Type) (x1 x2 x3 : Int) (k1 : Bool → Option α) : Option α := f62_0g  α x1 x2 x3 k1
def pa62_0 : PT (List DV) := pA [pV false [(dI .i64)], pV false [(dI .i64)], pV false [(dI .i64)]]
def Fn62_0 (v : Tf62_0) (α : Type) (k : List RV → Option α) : Int → Int → Int → Option α := fun x1 x2 x3 => v α x1 x2 x3 (fun (y1 : Bool) => ur62_0_0 k y1)
noncomputable def cm62_0g  : MCode := (.seq (.region r62_2 [] (tO [0, 1, 2])) (.seq (.region r62_4 [] (tO [6])) .ret))
noncomputable def cm62_0 : MCode := cm62_0g 
theorem gm62_0 : cm62_0.Good Try.prog E62_0 sh62 := ⟨trivial, ⟨trivial, trivial⟩⟩
theorem fm62_0g   (α : Type) (k : List RV → Option α) : Fn62_0 (f62_0g ) α k = pa62_0.unc fun ds => fnM Try.prog (E62_0g ) sh62 (cm62_0g ) rs62 k ds := by kernel_rfl
theorem fm62_0 : ∀ (α : Type) (k : List RV → Option α), Fn62_0 f62_0 α k = pa62_0.unc fun ds => fnM Try.prog E62_0 sh62 cm62_0 rs62 k ds := fm62_0g 
theorem is62 : FnIs Try.prog 62 nt62 tr62 tl62 cm62_0.erase rs62 := ⟨Try.f62, Try.func62, rfl, by kernel_rfl, by kernel_rfl, by kernel_rfl⟩
theorem io62_0 : InstOk Try.prog 62 nt62 ⟨pa62_0, Fn62_0 f62_0⟩ := inst_ok eo62_0 followsTry is62 ⟨⟨sh62, cm62_0, by kernel_rfl, gm62_0, fm62_0⟩⟩
abbrev nt67 : Nat := 54
def sh67 : List (Nat × List Sh) := [(12, [.int .u8]), (13, [.int .u8])]
def r67_2 : List AOper := [oO 2 (.mv (.const (.bool false)))]
def r67_5 : List AOper := [oM 6 0, oO 7 (.bytes (.tmp 6)), oO 8 (.len (.tmp 7)), oO 9 (.mv (kI 0))]
def td67_7 : Option Tidy := (some ⟨[0, 7, 8, 9], true, [⟨false, 7, 0, 20007, 1⟩], []⟩)
def r67_9 : List AOper := [oO 10 (.bin .lss 3 (.tmp 9) (.tmp 8))]
def r67_15 : List AOper := [oM 11 9, oO 12 (.iaddr 1 none (.tmp 7) (.tmp 9)), oO 13 (.load false 1 (.tmp 12)), oM 3 11, oM 4 13]
def r67_17 : List AOper := [oM 14 4, oO 15 (.bin .geq 5 (.tmp 14) (.const (.int .u8 97))), oM 16 15, oG 17 (.mv (.tmp 4)) 16 true, oG 18 (.bin .leq 5 (.tmp 17) (.const (.int .u8 122))) 16 true, oO 19 (.pick (.tmp 16) (.tmp 18) (.const (.bool false))), oM 20 19, oG 21 (.mv (.tmp 4)) 20 false, oG 22 (.bin .geq 5 (.tmp 21) (.const (.int .u8 65))) 20 false, oG 23 (.mv (.tmp 22)) 20 false, oG 24 (.mv (.tmp 4)) 23 true, oG 25 (.bin .leq 5 (.tmp 24) (.const (.int .u8 90))) 23 true, oG 26 (.pick (.tmp 23) (.tmp 25) (.const (.bool false))) 20 false, oO 27 (.pick (.tmp 20) (.const (.bool true)) (.tmp 26)), oM 5 27]
def r67_19 : List AOper := [oM 28 5, oO 29 (.pure (oB (.unOp .not 4 (.tmp 28)) 4)), oM 30 29, oG 31 (.mv (.tmp 3)) 30 true, oG 32 (.bin .eql 3 (.tmp 31) (kI 0)) 30 true, oG 33 (.mv (.tmp 32)) 30 true, oG 34 (.mv (.tmp 4)) 33 false, oG 35 (.bin .neq 5 (.tmp 34) (.const (.int .u8 45))) 33 false, oG 36 (.mv (.tmp 35)) 33 false, oG 37 (.mv (.tmp 4)) 36 true, oG 38 (.bin .lss 5 (.tmp 37) (.const (.int .u8 48))) 36 true, oG 39 (.mv (.tmp 38)) 36 true, oG 40 (.mv (.tmp 4)) 39 false, oG 41 (.bin .gtr 5 (.tmp 40) (.const (.int .u8 57))) 39 false, oG 42 (.pick (.tmp 39) (.const (.bool true)) (.tmp 41)) 36 true, oG 43 (.pick (.tmp 36) (.tmp 42) (.const (.bool false))) 33 false, oG 44 (.pick (.tmp 33) (.const (.bool true)) (.tmp 43)) 30 true, oO 45 (.pick (.tmp 30) (.tmp 44) (.const (.bool false)))]
def r67_22 : List AOper := [oO 2 (.mv (.const (.bool false)))]
def r67_23 : List AOper := [oO 46 (.bin .add 3 (.tmp 9) (kI 1)), oM 9 46]
def r67_25 : List AOper := [oM 47 0, ⟨(some 48), (.bin .neq 9 (.tmp 47) (.const (.string ⟨#[]⟩))), none⟩, oM 49 48, oG 50 (.mv (.tmp 0)) 49 true, oG 51 (.pure (oB (.call { callee := .builtin .len, args := #[(.tmp 50)], argTypes := #[9] }) 3)) 49 true, oG 52 (.bin .leq 3 (.tmp 51) (kI 12)) 49 true, oO 53 (.pick (.tmp 49) (.tmp 52) (.const (.bool false))), oM 2 53]
def tr67 : List (Nat × Tidy) := [tT 0 [0], tT 1 [0, 7, 8, 9], tT 2 [0, 7, 8, 9, 10], tT 3 [0, 3, 4, 7, 8, 9], tT 4 [0, 3, 4, 5, 7, 8, 9], tT 5 [0, 7, 8, 9, 45], tT 6 [2], tT 7 [0, 7, 8, 9], tT 8 [2]]
def tl67 : List (Nat × Tidy) := [(2, ⟨[0, 7, 8, 9], true, [⟨false, 7, 0, 20007, 1⟩], []⟩)]
def rs67 : List AResV := [.tmp 2]
def p67_0_0 : PT St := pS [sl 0 (aV false [(cD dS)]), sl 3 (aV false [(cD (dI .i64))]), sl 4 (aV false [(cD (dI .u8))]), sl 7 (aV false [(cRef 20007)]), sl 8 (aV false [(cD (dI .i64))]), sl 9 (aV false [(cD (dI .i64))])] [eOwn 20007 1]
def u67_0_0 {β : Type} (g : St → β) : ByteArray → Int → Int → Int → Int → Rows → β := p67_0_0.unc g
def p67_0_1 : PT St := pS [sl 0 (aV false [(cD dS)]), sl 3 (aV false [(cD (dI .i64))]), sl 4 (aV false [(cD (dI .u8))]), sl 5 (aV false [(cD dB)]), sl 7 (aV false [(cRef 20007)]), sl 8 (aV false [(cD (dI .i64))]), sl 9 (aV false [(cD (dI .i64))])] [eOwn 20007 1]
def u67_0_1 {β : Type} (g : St → β) : ByteArray → Int → Int → Bool → Int → Int → Rows → β := p67_0_1.unc g
def p67_0_2 : PT St := pS [sl 0 (aV false [(cD dS)]), sl 7 (aV false [(cRef 20007)]), sl 8 (aV false [(cD (dI .i64))]), sl 9 (aV false [(cD (dI .i64))]), sl 45 (aV false [(cD dB)])] [eOwn 20007 1]
def u67_0_2 {β : Type} (g : St → β) : ByteArray → Int → Int → Bool → Rows → β := p67_0_2.unc g
def p67_0_3 : PT St := pS [sl 0 (aV false [(cD dS)]), sl 7 (aV false [(cRef 20007)]), sl 8 (aV false [(cD (dI .i64))]), sl 9 (aV false [(cD (dI .i64))])] [eOwn 20007 1]
def u67_0_3 {β : Type} (g : St → β) : ByteArray → Int → Int → Rows → β := p67_0_3.unc g
def p67_0_4 : PT St := pS [sl 2 (aV false [(cD dB)])] []
def u67_0_4 {β : Type} (g : St → β) : Bool → β := p67_0_4.unc g
def p67_0_5 : PT St := pS [sl 0 (aV false [(cD dS)]), sl 7 (aV false [(cRef 20007)]), sl 8 (aV false [(cD (dI .i64))]), sl 9 (aV false [(cD (dI .i64))]), sl 10 (aV false [(cD dB)])] [eOwn 20007 1]
def u67_0_5 {β : Type} (g : St → β) : ByteArray → Int → Int → Bool → Rows → β := p67_0_5.unc g
def pr67_0_0 : PT (List RV) := pRs [pR false [rD dB]]
def ur67_0_0 {β : Type} (g : List RV → β) : Bool → β := pr67_0_0.unc g
def E67_0g  : EnvK := EnvK.of [] noSeq
noncomputable def E67_0 : EnvK := E67_0g 
theorem eo67_0 : E67_0.Ok Try.prog := EnvK.of_ok noSeq_ok trivial
noncomputable def c67_0_18g  : MCode := (.region r67_19 [] (tO [0, 7, 8, 9, 45]))
noncomputable def c67_0_18 : MCode := c67_0_18g 
theorem g67_0_18 : c67_0_18.Good Try.prog E67_0 sh67 := trivial
--CODE 18 0
abbrev TJ67_0_1 : Type 1 := (α : Type) → Int → Int → Bool → (Bool → Option α) → Option α
def J67_0_1g  (α : Type) (x18 x19 : Int) (x20 : Bool) (k1 : Bool → Option α) : Option α :=
 cK (!x20)
 (cK (x18 == 0)
 (k1 true)
 (cK (x19 != 45)
 (cK (decide (x19 < 48))
 (k1 true)
 (k1 (decide (57 < x19))))
 (k1 false)))
 (k1 false)
noncomputable def J67_0_1 (α : Type) (x18 x19 : Int) (x20 : Bool) (k1 : Bool → Option α) : Option α := J67_0_1g  α x18 x19 x20 k1
def F67_0_1 (v : TJ67_0_1) (α : Type) (K : Exit → St → Option α) : ByteArray → Int → Int → Bool → Int → Int → Rows → Option α := fun x17 x18 x19 x20 x21 x22 x23 => v α x18 x19 x20 (fun (y1 : Bool) => u67_0_2 (K .normal) x17 x21 x22 y1 x23) 
theorem m67_0_1g   (α : Type) (K : Exit → St → Option α) : F67_0_1 (J67_0_1g ) α K = p67_0_1.unc fun σ => runM Try.prog (E67_0g ) sh67 (c67_0_18g ) K σ := by kernel_rfl
theorem m67_0_1 : ∀ (α : Type) (K : Exit → St → Option α), F67_0_1 J67_0_1 α K = p67_0_1.unc fun σ => runM Try.prog E67_0 sh67 c67_0_18 K σ := m67_0_1g 
noncomputable def c67_0_16g  : MCode := (.region r67_17 [] (tO [0, 3, 4, 5, 7, 8, 9]))
noncomputable def c67_0_16 : MCode := c67_0_16g 
theorem g67_0_16 : c67_0_16.Good Try.prog E67_0 sh67 := trivial
--CODE 16 0
abbrev TJ67_0_0 : Type 1 := (α : Type) → Int → (Bool → Option α) → Option α
def J67_0_0g  (α : Type) (x10 : Int) (k1 : Bool → Option α) : Option α :=
 cK (decide (97 ≤ x10))
 (cK (decide (x10 ≤ 122))
 (k1 true)
 (cK (decide (65 ≤ x10))
 (k1 (decide (x10 ≤ 90)))
 (k1 false)))
 (cK (decide (65 ≤ x10))
 (k1 (decide (x10 ≤ 90)))
 (k1 false))
noncomputable def J67_0_0 (α : Type) (x10 : Int) (k1 : Bool → Option α) : Option α := J67_0_0g  α x10 k1
def F67_0_0 (v : TJ67_0_0) (α : Type) (K : Exit → St → Option α) : ByteArray → Int → Int → Int → Int → Rows → Option α := fun x8 x9 x10 x11 x12 x13 => v α x10 (fun (y1 : Bool) => u67_0_1 (K .normal) x8 x9 x10 y1 x11 x12 x13) 
theorem m67_0_0g   (α : Type) (K : Exit → St → Option α) : F67_0_0 (J67_0_0g ) α K = p67_0_0.unc fun σ => runM Try.prog (E67_0g ) sh67 (c67_0_16g ) K σ := by kernel_rfl
theorem m67_0_0 : ∀ (α : Type) (K : Exit → St → Option α), F67_0_0 J67_0_0 α K = p67_0_0.unc fun σ => runM Try.prog E67_0 sh67 c67_0_16 K σ := m67_0_0g 
noncomputable def c67_0_7g (vJ67_0_0 : TJ67_0_0) (vJ67_0_1 : TJ67_0_1) : MCode := (.seq (.region r67_9 [] (tO [0, 7, 8, 9, 10])) (.seq (.cond (.tmp 10) .skip (.exit 0)) (.seq (.block 1 (.seq (.region r67_15 [] (tO [0, 3, 4, 7, 8, 9])) (.seq (.mark [⟨p67_0_0, F67_0_0 vJ67_0_0⟩] c67_0_16) (.seq (.mark [⟨p67_0_1, F67_0_1 vJ67_0_1⟩] c67_0_18) (.cond (.tmp 45) (.seq (.region r67_22 [] (tO [2])) .ret) .skip))))) (.region r67_23 [] (tO [0, 7, 8, 9])))))
noncomputable def c67_0_7 : MCode := c67_0_7g J67_0_0 J67_0_1
theorem g67_0_7 : c67_0_7.Good Try.prog E67_0 sh67 := ⟨trivial, ⟨⟨trivial, trivial⟩, ⟨⟨trivial, ⟨⟨g67_0_16, m67_0_0, trivial⟩, ⟨⟨g67_0_18, m67_0_1, trivial⟩, ⟨⟨trivial, trivial⟩, trivial⟩⟩⟩⟩, trivial⟩⟩⟩
--CODE 7 0
def S67_0_2g (vJ67_0_0 : TJ67_0_0) (vJ67_0_1 : TJ67_0_1) (α : Type) (x3 : Int) (x5 : Rows) (x4 : Int) (kn : Int → Option α) (k1 : Option α) (k2 : Int → Bool → Option α) : Option α :=
 cK (decide (x4 < x3))
 (ixK x5 x4 1
 (ldK x5 (Int.toNat x4) 0 [.int .u8]
 (fun x7 => vJ67_0_0 α x7
 (fun x15 => vJ67_0_1 α x4 x7 x15
 (fun x25 => cK x25
 (k1)
 (kn (w64 (x4 + 1))))))))
 (k2 x4 (decide (x4 < x3)))
noncomputable def S67_0_2 (α : Type) (x3 : Int) (x5 : Rows) (x4 : Int) (kn : Int → Option α) (k1 : Option α) (k2 : Int → Bool → Option α) : Option α := S67_0_2g J67_0_0 J67_0_1 α x3 x5 x4 kn k1 k2
noncomputable def R67_0_2 (α : Type) (x3 : Int) (x5 : Rows) (k1 : Option α) (k2 : Int → Bool → Option α) : Nat → Int → Option α
 | 0, _ => none
 | n + 1, x4 => S67_0_2 α x3 x5 x4 (R67_0_2 α x3 x5 k1 k2 n) k1 k2
noncomputable def L67_0_2 (α : Type) (x3 : Int) (x5 : Rows) (k1 : Option α) (k2 : Int → Bool → Option α) (x4 : Int) : Option α := R67_0_2 α x3 x5 k1 k2 fuel x4
abbrev TL67_0_2 : Type 1 := (α : Type) → Int → Rows → (Option α) → (Int → Bool → Option α) → Int → Option α
def F67_0_2 (v : TL67_0_2) (α : Type) (K : Exit → St → Option α) : ByteArray → Int → Int → Rows → Option α := fun x2 x3 x4 x5 => v α x3 x5 (u67_0_4 (K .ret) false) (fun (y1 : Int) (y2 : Bool) => u67_0_5 (K (.exit 0)) x2 x3 y1 y2 x5) x4
theorem r67_0_2g  (vJ67_0_0 : TJ67_0_0) (vJ67_0_1 : TJ67_0_1) (α : Type) (K : Exit → St → Option α) (Kn : St → Option α) (x2 : ByteArray) (x3 x4 : Int) (x5 : Rows) : u67_0_3 (fun σ => runM Try.prog (E67_0g ) sh67 (c67_0_7g vJ67_0_0 vJ67_0_1) (thenK (fun σ => tidyK td67_7 σ Kn) K) σ) x2 x3 x4 x5 = S67_0_2g vJ67_0_0 vJ67_0_1 α x3 x5 x4 (fun x4 => u67_0_3 Kn x2 x3 x4 x5) (u67_0_4 (K .ret) false) (fun (y1 : Int) (y2 : Bool) => u67_0_5 (K (.exit 0)) x2 x3 y1 y2 x5) := by kernel_rfl
theorem r67_0_2 (α : Type) (K : Exit → St → Option α) (Kn : St → Option α) (x2 : ByteArray) (x3 x4 : Int) (x5 : Rows) : u67_0_3 (fun σ => runM Try.prog E67_0 sh67 c67_0_7 (thenK (fun σ => tidyK td67_7 σ Kn) K) σ) x2 x3 x4 x5 = S67_0_2 α x3 x5 x4 (fun x4 => u67_0_3 Kn x2 x3 x4 x5) (u67_0_4 (K .ret) false) (fun (y1 : Int) (y2 : Bool) => u67_0_5 (K (.exit 0)) x2 x3 y1 y2 x5) := r67_0_2g J67_0_0 J67_0_1 α K Kn x2 x3 x4 x5
theorem t67_0_2 (α : Type) (K : Exit → St → Option α) : ∀ (n : Nat) (x2 : ByteArray) (x3 x4 : Int) (x5 : Rows), R67_0_2 α x3 x5 (u67_0_4 (K .ret) false) (fun (y1 : Int) (y2 : Bool) => u67_0_5 (K (.exit 0)) x2 x3 y1 y2 x5) n x4 = u67_0_3 (loopT (runM Try.prog E67_0 sh67 c67_0_7) td67_7 K n) x2 x3 x4 x5 := by
 intro n
 induction n with
 | zero => intros; rfl
 | succ n ih => intro x2 x3 x4 x5; exact (congrArg (fun kn => S67_0_2 α x3 x5 x4 kn (u67_0_4 (K .ret) false) (fun (y1 : Int) (y2 : Bool) => u67_0_5 (K (.exit 0)) x2 x3 y1 y2 x5)) (funext fun x4 => ih x2 x3 x4 x5)).trans (r67_0_2 α K (loopT (runM Try.prog E67_0 sh67 c67_0_7) td67_7 K n) x2 x3 x4 x5).symm
theorem m67_0_2 : ∀ (α : Type) (K : Exit → St → Option α), F67_0_2 L67_0_2 α K = p67_0_3.unc fun σ => loopT (runM Try.prog E67_0 sh67 c67_0_7) td67_7 K fuel σ := fun α K => funext fun x2 => funext fun x3 => funext fun x4 => funext fun x5 => t67_0_2 α K fuel x2 x3 x4 x5
abbrev Tf67_0 : Type 1 := (α : Type) → ByteArray → (Bool → Option α) → Option α
def f67_0g (vL67_0_2 : TL67_0_2) (α : Type) (x1 : ByteArray) (k1 : Bool → Option α) : Option α :=
 gK (decide (ByteArray.size x1 ≤ 9223372036854775807)) (vL67_0_2 α ((List.length (bytesR x1) : Nat) : Int) (bytesR x1)
 (k1 false)
 (fun x27 x28 => cK (!(x1.toList == (⟨#[]⟩ : ByteArray).toList))
 (k1 (decide (((ByteArray.size x1 : Nat) : Int) ≤ 12)))
 (k1 false)) 0)
noncomputable def f67_0 (α : Type) (x1 : ByteArray) (k1 : Bool → Option α) : Option α := f67_0g L67_0_2 α x1 k1
def pa67_0 : PT (List DV) := pA [pV false [dS]]
def Fn67_0 (v : Tf67_0) (α : Type) (k : List RV → Option α) : ByteArray → Option α := fun x1 => v α x1 (fun (y1 : Bool) => ur67_0_0 k y1)
noncomputable def cm67_0g (vL67_0_2 : TL67_0_2) : MCode := (.seq (.region r67_2 [] (tO [0])) (.seq (.seq (.region r67_5 [] (tO [0, 7, 8, 9])) (.block 0 (.loop td67_7 [⟨p67_0_3, F67_0_2 vL67_0_2⟩] c67_0_7))) (.seq (.region r67_25 [] (tO [2])) .ret)))
noncomputable def cm67_0 : MCode := cm67_0g L67_0_2
theorem gm67_0 : cm67_0.Good Try.prog E67_0 sh67 := ⟨trivial, ⟨⟨trivial, ⟨g67_0_7, m67_0_2, trivial⟩⟩, ⟨trivial, trivial⟩⟩⟩
theorem fm67_0g  (vL67_0_2 : TL67_0_2) (α : Type) (k : List RV → Option α) : Fn67_0 (f67_0g vL67_0_2) α k = pa67_0.unc fun ds => fnM Try.prog (E67_0g ) sh67 (cm67_0g vL67_0_2) rs67 k ds := by kernel_rfl
theorem fm67_0 : ∀ (α : Type) (k : List RV → Option α), Fn67_0 f67_0 α k = pa67_0.unc fun ds => fnM Try.prog E67_0 sh67 cm67_0 rs67 k ds := fm67_0g L67_0_2
theorem is67 : FnIs Try.prog 67 nt67 tr67 tl67 cm67_0.erase rs67 := ⟨Try.f67, Try.func67, rfl, by kernel_rfl, by kernel_rfl, by kernel_rfl⟩
theorem io67_0 : InstOk Try.prog 67 nt67 ⟨pa67_0, Fn67_0 f67_0⟩ := inst_ok eo67_0 followsTry is67 ⟨⟨sh67, cm67_0, by kernel_rfl, gm67_0, fm67_0⟩⟩
abbrev nt49 : Nat := 10
def sh49 : List (Nat × List Sh) := []
def r49_2 : List AOper := [oO 4 (.mv (kI 0))]
def r49_4 : List AOper := [oM 5 0, oO 6 (.pure (oB (.unOp .neg 3 (.tmp 5)) 3)), oM 7 1, oO 8 (.call 48 [(.tmp 6), (.tmp 7)]), oO 9 (.pure (oB (.unOp .neg 3 (.tmp 8)) 3)), oM 4 9]
def tr49 : List (Nat × Tidy) := [tT 0 [0, 1], tT 1 [4]]
def tl49 : List (Nat × Tidy) := []
def rs49 : List AResV := [.tmp 4]
def pr49_0_0 : PT (List RV) := pRs [pR false [rD (dI .i64)]]
def ur49_0_0 {β : Type} (g : List RV → β) : Int → β := pr49_0_0.unc g
def E49_0g (vf48_0 : Tf48_0) : EnvK := EnvK.of [⟨48, nt48, [⟨pa48_0, Fn48_0 vf48_0⟩]⟩] noSeq
noncomputable def E49_0 : EnvK := E49_0g f48_0
theorem eo49_0 : E49_0.Ok Try.prog := EnvK.of_ok noSeq_ok ⟨⟨io48_0, trivial⟩, trivial⟩
abbrev Tf49_0 : Type 1 := (α : Type) → Int → Int → (Int → Option α) → Option α
def f49_0g (vf48_0 : Tf48_0) (α : Type) (x1 x2 : Int) (k1 : Int → Option α) : Option α :=
 vf48_0 α (w64 (0 - x1)) x2
 (fun x3 => k1 (w64 (0 - x3)))
noncomputable def f49_0 (α : Type) (x1 x2 : Int) (k1 : Int → Option α) : Option α := f49_0g f48_0 α x1 x2 k1
def pa49_0 : PT (List DV) := pA [pV false [(dI .i64)], pV false [(dI .i64)]]
def Fn49_0 (v : Tf49_0) (α : Type) (k : List RV → Option α) : Int → Int → Option α := fun x1 x2 => v α x1 x2 (fun (y1 : Int) => ur49_0_0 k y1)
noncomputable def cm49_0g  : MCode := (.seq (.region r49_2 [] (tO [0, 1])) (.seq (.region r49_4 [] (tO [4])) .ret))
noncomputable def cm49_0 : MCode := cm49_0g 
theorem gm49_0 : cm49_0.Good Try.prog E49_0 sh49 := ⟨trivial, ⟨trivial, trivial⟩⟩
theorem fm49_0g (vf48_0 : Tf48_0)  (α : Type) (k : List RV → Option α) : Fn49_0 (f49_0g vf48_0) α k = pa49_0.unc fun ds => fnM Try.prog (E49_0g vf48_0) sh49 (cm49_0g ) rs49 k ds := by kernel_rfl
theorem fm49_0 : ∀ (α : Type) (k : List RV → Option α), Fn49_0 f49_0 α k = pa49_0.unc fun ds => fnM Try.prog E49_0 sh49 cm49_0 rs49 k ds := fm49_0g f48_0
theorem is49 : FnIs Try.prog 49 nt49 tr49 tl49 cm49_0.erase rs49 := ⟨Try.f49, Try.func49, rfl, by kernel_rfl, by kernel_rfl, by kernel_rfl⟩
theorem io49_0 : InstOk Try.prog 49 nt49 ⟨pa49_0, Fn49_0 f49_0⟩ := inst_ok eo49_0 followsTry is49 ⟨⟨sh49, cm49_0, by kernel_rfl, gm49_0, fm49_0⟩⟩
abbrev nt58 : Nat := 10
def sh58 : List (Nat × List Sh) := []
def r58_2 : List AOper := [oO 4 (.mv (.const (.bool false)))]
def r58_4 : List AOper := [oM 5 0, oM 6 1, oO 7 (.pure (oB (.unOp .neg 3 (.tmp 6)) 3)), oM 8 1, oO 9 (.call 62 [(.tmp 5), (.tmp 7), (.tmp 8)]), oM 4 9]
def tr58 : List (Nat × Tidy) := [tT 0 [0, 1], tT 1 [4]]
def tl58 : List (Nat × Tidy) := []
def rs58 : List AResV := [.tmp 4]
def pr58_0_0 : PT (List RV) := pRs [pR false [rD dB]]
def ur58_0_0 {β : Type} (g : List RV → β) : Bool → β := pr58_0_0.unc g
def E58_0g (vf62_0 : Tf62_0) : EnvK := EnvK.of [⟨62, nt62, [⟨pa62_0, Fn62_0 vf62_0⟩]⟩] noSeq
noncomputable def E58_0 : EnvK := E58_0g f62_0
theorem eo58_0 : E58_0.Ok Try.prog := EnvK.of_ok noSeq_ok ⟨⟨io62_0, trivial⟩, trivial⟩
abbrev Tf58_0 : Type 1 := (α : Type) → Int → Int → (Bool → Option α) → Option α
def f58_0g (vf62_0 : Tf62_0) (α : Type) (x1 x2 : Int) (k1 : Bool → Option α) : Option α :=
 vf62_0 α x1 (w64 (0 - x2)) x2
 (fun x3 => k1 x3)
noncomputable def f58_0 (α : Type) (x1 x2 : Int) (k1 : Bool → Option α) : Option α := f58_0g f62_0 α x1 x2 k1
def pa58_0 : PT (List DV) := pA [pV false [(dI .i64)], pV false [(dI .i64)]]
def Fn58_0 (v : Tf58_0) (α : Type) (k : List RV → Option α) : Int → Int → Option α := fun x1 x2 => v α x1 x2 (fun (y1 : Bool) => ur58_0_0 k y1)
noncomputable def cm58_0g  : MCode := (.seq (.region r58_2 [] (tO [0, 1])) (.seq (.region r58_4 [] (tO [4])) .ret))
noncomputable def cm58_0 : MCode := cm58_0g 
theorem gm58_0 : cm58_0.Good Try.prog E58_0 sh58 := ⟨trivial, ⟨trivial, trivial⟩⟩
theorem fm58_0g (vf62_0 : Tf62_0)  (α : Type) (k : List RV → Option α) : Fn58_0 (f58_0g vf62_0) α k = pa58_0.unc fun ds => fnM Try.prog (E58_0g vf62_0) sh58 (cm58_0g ) rs58 k ds := by kernel_rfl
theorem fm58_0 : ∀ (α : Type) (k : List RV → Option α), Fn58_0 f58_0 α k = pa58_0.unc fun ds => fnM Try.prog E58_0 sh58 cm58_0 rs58 k ds := fm58_0g f62_0
theorem is58 : FnIs Try.prog 58 nt58 tr58 tl58 cm58_0.erase rs58 := ⟨Try.f58, Try.func58, rfl, by kernel_rfl, by kernel_rfl, by kernel_rfl⟩
theorem io58_0 : InstOk Try.prog 58 nt58 ⟨pa58_0, Fn58_0 f58_0⟩ := inst_ok eo58_0 followsTry is58 ⟨⟨sh58, cm58_0, by kernel_rfl, gm58_0, fm58_0⟩⟩
abbrev nt41 : Nat := 27
def sh41 : List (Nat × List Sh) := [(17, [.int .i64]), (23, [.int .i64])]
def r41_2 : List AOper := [oO 5 (.box (.tmp 2)), oO 6 (.mv (kI 0))]
def r41_6 : List AOper := [oM 8 0, oO 9 (.call 67 [(.tmp 8)]), oO 10 (.pure (oB (.unOp .not 4 (.tmp 9)) 4)), oM 7 10]
def r41_9 : List AOper := [oO 6 (.mv (kI 3))]
def r41_11 : List AOper := [oM 12 1, oO 13 (.call 62 [(.tmp 12), (kI 1000), (kI 200000)]), oO 14 (.pure (oB (.unOp .not 4 (.tmp 13)) 4)), oM 15 14, oG 16 (.faddr 0 (.tmp 5)) 15 false, oG 17 (.load false 1 (.tmp 16)) 15 false, oG 18 (.call 62 [(.tmp 17), (kI 5000), (kI 80000)]) 15 false, oG 19 (.pure (oB (.unOp .not 4 (.tmp 18)) 4)) 15 false, oO 20 (.pick (.tmp 15) (.const (.bool true)) (.tmp 19)), oM 21 20, oG 22 (.faddr 1 (.tmp 5)) 21 false, oG 23 (.load false 1 (.tmp 22)) 21 false, oG 24 (.call 62 [(.tmp 23), (kI 0), (kI 9999)]) 21 false, oG 25 (.pure (oB (.unOp .not 4 (.tmp 24)) 4)) 21 false, oO 26 (.pick (.tmp 21) (.const (.bool true)) (.tmp 25)), oM 11 26]
def r41_14 : List AOper := [oO 6 (.mv (kI 2))]
def r41_16 : List AOper := [oO 6 (.mv (kI 0))]
def tr41 : List (Nat × Tidy) := [tT 0 [0, 1, 5], tT 1 [1, 5, 7], tT 2 [6], tT 3 [11], tT 4 [6], tT 5 [6]]
def tl41 : List (Nat × Tidy) := []
def rs41 : List AResV := [.tmp 6]
def pr41_0_0 : PT (List RV) := pRs [pR false [rD (dI .i64)]]
def ur41_0_0 {β : Type} (g : List RV → β) : Int → β := pr41_0_0.unc g
def E41_0g (vf67_0 : Tf67_0) (vf62_0 : Tf62_0) : EnvK := EnvK.of [⟨67, nt67, [⟨pa67_0, Fn67_0 vf67_0⟩]⟩, ⟨62, nt62, [⟨pa62_0, Fn62_0 vf62_0⟩]⟩] noSeq
noncomputable def E41_0 : EnvK := E41_0g f67_0 f62_0
theorem eo41_0 : E41_0.Ok Try.prog := EnvK.of_ok noSeq_ok ⟨⟨io67_0, trivial⟩, ⟨io62_0, trivial⟩, trivial⟩
abbrev Tf41_0 : Type 1 := (α : Type) → ByteArray → Int → Int → Int → (Int → Option α) → Option α
def f41_0g (vf62_0 : Tf62_0) (vf67_0 : Tf67_0) (α : Type) (x1 : ByteArray) (x2 x3 x4 : Int) (k1 : Int → Option α) : Option α :=
 vf67_0 α x1
 (fun x5 => cK (!x5)
 (k1 3)
 (vf62_0 α x2 1000 200000
 (fun x6 => cK (!x6)
 (k1 2)
 (vf62_0 α x3 5000 80000
 (fun x7 => cK (!x7)
 (k1 2)
 (vf62_0 α x4 0 9999
 (fun x8 => cK (!x8)
 (k1 2)
 (k1 0))))))))
noncomputable def f41_0 (α : Type) (x1 : ByteArray) (x2 x3 x4 : Int) (k1 : Int → Option α) : Option α := f41_0g f62_0 f67_0 α x1 x2 x3 x4 k1
def pa41_0 : PT (List DV) := pA [pV false [dS], pV false [(dI .i64)], pV true [(dI .i64), (dI .i64)]]
def Fn41_0 (v : Tf41_0) (α : Type) (k : List RV → Option α) : ByteArray → Int → Int → Int → Option α := fun x1 x2 x3 x4 => v α x1 x2 x3 x4 (fun (y1 : Int) => ur41_0_0 k y1)
noncomputable def cm41_0g  : MCode := (.seq (.region r41_2 [] (tO [0, 1, 5])) (.seq (.block 0 (.seq (.region r41_6 [] (tO [1, 5, 7])) (.cond (.tmp 7) (.seq (.region r41_9 [] (tO [6])) .ret) (.seq (.region r41_11 [] (tO [11])) (.cond (.tmp 11) (.seq (.region r41_14 [] (tO [6])) .ret) .skip))))) (.seq (.region r41_16 [] (tO [6])) .ret)))
noncomputable def cm41_0 : MCode := cm41_0g 
theorem gm41_0 : cm41_0.Good Try.prog E41_0 sh41 := ⟨trivial, ⟨⟨trivial, ⟨⟨trivial, trivial⟩, ⟨trivial, ⟨⟨trivial, trivial⟩, trivial⟩⟩⟩⟩, ⟨trivial, trivial⟩⟩⟩
theorem fm41_0g (vf67_0 : Tf67_0) (vf62_0 : Tf62_0)  (α : Type) (k : List RV → Option α) : Fn41_0 (f41_0g vf62_0 vf67_0) α k = pa41_0.unc fun ds => fnM Try.prog (E41_0g vf67_0 vf62_0) sh41 (cm41_0g ) rs41 k ds := by kernel_rfl
theorem fm41_0 : ∀ (α : Type) (k : List RV → Option α), Fn41_0 f41_0 α k = pa41_0.unc fun ds => fnM Try.prog E41_0 sh41 cm41_0 rs41 k ds := fm41_0g f67_0 f62_0
theorem is41 : FnIs Try.prog 41 nt41 tr41 tl41 cm41_0.erase rs41 := ⟨Try.f41, Try.func41, rfl, by kernel_rfl, by kernel_rfl, by kernel_rfl⟩
theorem io41_0 : InstOk Try.prog 41 nt41 ⟨pa41_0, Fn41_0 f41_0⟩ := inst_ok eo41_0 followsTry is41 ⟨⟨sh41, cm41_0, by kernel_rfl, gm41_0, fm41_0⟩⟩
abbrev nt23 : Nat := 88
def sh23 : List (Nat × List Sh) := [(20, [.int .i64, .int .i64, .int .i64, .int .i64, .int .i64, .int .i64]), (31, [.int .i64]), (35, [.int .i64]), (37, [.int .i64]), (42, [.int .i64]), (48, [.int .i64]), (68, [.int .i64]), (75, [.int .i64]), (82, [.int .i64, .int .i64]), (84, [.int .i64, .int .i64]), (86, [.int .i64, .int .i64])]
def r23_2 : List AOper := [oO 4 (.box (.tmp 0)), oO 5 (.box (.tmp 1)), oO 8 (.alloc [(cI 0), (cI 0), (cI 0), (cI 0), (cI 0), (cI 0)]), oO 9 (.mv (kI 0))]
def r23_4 : List AOper := [oO 10 (.alloc [(cI 0), (cI 0), (cI 0), (cI 0), (cI 0), (cI 0)])]
def r23_7 : List AOper := [oO 17 (.mv (kI 0))]
def td23_9 : Option Tidy := (tO [2, 3, 4, 5, 8, 10, 17])
def r23_11 : List AOper := [oO 18 (.bin .lss 3 (.tmp 17) (kI 3))]
def r23_17 : List AOper := [oM 19 17, oM 11 19]
def r23_19 : List AOper := [oO 12 (.mv (kI 0)), oO 13 (.mv (kI 0))]
def r23_22 : List AOper := [oO 20 (.load true 6 (.tmp 5)), oO 21 (.call 57 [(.tmp 20)]), oO 22 (.mv (kI 0))]
def td23_24 : Option Tidy := (tO [2, 3, 4, 5, 8, 10, 11, 12, 13, 17, 21, 22])
def r23_26 : List AOper := [oO 23 (.bin .lss 3 (.tmp 22) (kI 3))]
def r23_32 : List AOper := [oM 24 22, oO 25 (.index true 3 2 (.tmp 21) (.tmp 22)), oO 15 (.alloc [(cI 0), (cI 0)]), oM 14 24, oD (.store 2 (.tmp 15) (.tmp 25))]
def r23_34 : List AOper := [oM 26 11, oO 27 (.bin .mul 3 (kI 3) (.tmp 26)), oM 28 14, oO 29 (.bin .add 3 (.tmp 27) (.tmp 28)), oO 30 (.iaddr 1 (some 9) (.tmp 4) (.tmp 29)), oO 31 (.load false 1 (.tmp 30)), oM 16 31]
def r23_37 : List AOper := [oM 32 16, oO 33 (.bin .lss 3 (.tmp 32) (kI 0))]
def r23_39 : List AOper := [oO 34 (.faddr 1 (.tmp 15)), oO 35 (.load false 1 (.tmp 34)), oO 36 (.faddr 0 (.tmp 15)), oO 37 (.load false 1 (.tmp 36)), oO 38 (.build [(cI 0), (cI 0)] [(0, 1, (.tmp 35)), (1, 1, (.tmp 37))]), oD (.store 2 (.tmp 15) (.tmp 38))]
def r23_40 : List AOper := [oM 39 12, oM 40 16, oO 41 (.faddr 0 (.tmp 15)), oO 42 (.load false 1 (.tmp 41)), oO 43 (.bin .mul 3 (.tmp 40) (.tmp 42)), oO 44 (.bin .add 3 (.tmp 39) (.tmp 43)), oM 45 13, oM 46 16, oO 47 (.faddr 1 (.tmp 15)), oO 48 (.load false 1 (.tmp 47)), oO 49 (.bin .mul 3 (.tmp 46) (.tmp 48)), oO 50 (.bin .add 3 (.tmp 45) (.tmp 49)), oM 12 44, oM 13 50]
def r23_41 : List AOper := [oO 51 (.bin .add 3 (.tmp 22) (kI 1)), oM 22 51]
def r23_43 : List AOper := [oM 52 11, oM 53 12, oM 54 2, oO 55 (.bin .mul 3 (.tmp 53) (.tmp 54)), oM 56 3, oO 57 (.call 48 [(.tmp 55), (.tmp 56)]), oM 58 13, oM 59 2, oO 60 (.bin .mul 3 (.tmp 58) (.tmp 59)), oM 61 3, oO 62 (.call 49 [(.tmp 60), (.tmp 61)]), oO 63 (.build [(cI 0), (cI 0)] [(0, 1, (.tmp 57)), (1, 1, (.tmp 62))]), oO 64 (.iaddr 2 (some 3) (.tmp 10) (.tmp 52)), oD (.store 2 (.tmp 64) (.tmp 63))]
def r23_45 : List AOper := [oM 65 11, oO 66 (.iaddr 2 (some 3) (.tmp 10) (.tmp 65)), oO 67 (.faddr 0 (.tmp 66)), oO 68 (.load false 1 (.tmp 67)), oO 69 (.call 58 [(.tmp 68), (kI 10000000)]), oO 70 (.pure (oB (.unOp .not 4 (.tmp 69)) 4)), oM 71 70, oG 72 (.mv (.tmp 11)) 71 false, oG 73 (.iaddr 2 (some 3) (.tmp 10) (.tmp 72)) 71 false, oG 74 (.faddr 1 (.tmp 73)) 71 false, oG 75 (.load false 1 (.tmp 74)) 71 false, oG 76 (.call 58 [(.tmp 75), (kI 10000000)]) 71 false, oG 77 (.pure (oB (.unOp .not 4 (.tmp 76)) 4)) 71 false, oO 78 (.pick (.tmp 71) (.const (.bool true)) (.tmp 77))]
def r23_48 : List AOper := [oO 79 (.build [(cI 0), (cI 0), (cI 0), (cI 0), (cI 0), (cI 0)] []), oD (.store 6 (.tmp 8) (.tmp 79)), oO 9 (.mv (kI 8))]
def r23_49 : List AOper := [oO 80 (.bin .add 3 (.tmp 17) (kI 1)), oM 17 80]
def r23_51 : List AOper := [oO 81 (.iaddr 2 (some 3) (.tmp 10) (kI 0)), oO 82 (.load true 2 (.tmp 81)), oO 83 (.iaddr 2 (some 3) (.tmp 10) (kI 1)), oO 84 (.load true 2 (.tmp 83)), oO 85 (.iaddr 2 (some 3) (.tmp 10) (kI 2)), oO 86 (.load true 2 (.tmp 85)), oO 87 (.build [(cI 0), (cI 0), (cI 0), (cI 0), (cI 0), (cI 0)] [(0, 2, (.tmp 82)), (2, 2, (.tmp 84)), (4, 2, (.tmp 86))]), oD (.store 6 (.tmp 8) (.tmp 87)), oO 9 (.mv (kI 0))]
def tr23 : List (Nat × Tidy) := [tT 0 [2, 3, 4, 5, 8], tT 1 [2, 3, 4, 5, 8, 10], tT 2 [2, 3, 4, 5, 8, 10, 17], tT 3 [2, 3, 4, 5, 8, 10, 17, 18], tT 4 [2, 3, 4, 5, 8, 10, 11, 17], tT 5 [2, 3, 4, 5, 8, 10, 11, 12, 13, 17], tT 6 [2, 3, 4, 5, 8, 10, 11, 12, 13, 17, 21, 22], tT 7 [2, 3, 4, 5, 8, 10, 11, 12, 13, 17, 21, 22, 23], tT 8 [2, 3, 4, 5, 8, 10, 11, 12, 13, 14, 15, 17, 21, 22], tT 9 [2, 3, 4, 5, 8, 10, 11, 12, 13, 15, 16, 17, 21, 22], tT 10 [2, 3, 4, 5, 8, 10, 11, 12, 13, 15, 16, 17, 21, 22, 33], tT 11 [2, 3, 4, 5, 8, 10, 11, 12, 13, 15, 16, 17, 21, 22], tT 12 [2, 3, 4, 5, 8, 10, 11, 12, 13, 17, 21, 22], tT 13 [2, 3, 4, 5, 8, 10, 11, 12, 13, 17, 21, 22], tT 14 [2, 3, 4, 5, 8, 10, 11, 17], tT 15 [2, 3, 4, 5, 8, 10, 17, 78], tT 16 [8, 9], tT 17 [2, 3, 4, 5, 8, 10, 17], tT 18 [8, 9]]
def tl23 : List (Nat × Tidy) := [tT 3 [2, 3, 4, 5, 8, 10, 17], tT 7 [2, 3, 4, 5, 8, 10, 11, 12, 13, 17, 21, 22]]
def rs23 : List AResV := [.cell 8 true 6, .tmp 9]
def p23_0_0 : PT St := pS [sl 2 (aV false [(cD (dI .i64))]), sl 3 (aV false [(cD (dI .i64))]), sl 4 (aV false [(cPtr 4 0)]), sl 5 (aV false [(cPtr 5 0)]), sl 8 (aV false [(cPtr 8 0)]), sl 10 (aV false [(cPtr 10 0)]), sl 11 (aV false [(cD (dIc .i64 0))]), sl 12 (aV false [(cD (dI .i64))]), sl 13 (aV false [(cD (dI .i64))]), sl 15 (aV false [(cPtr 15 0)]), sl 16 (aV false [(cD (dI .i64))]), sl 17 (aV false [(cD (dIc .i64 0))]), sl 21 (aV true [(cD (dI .i64)), (cD (dI .i64)), (cD (dI .i64)), (cD (dI .i64)), (cD (dI .i64)), (cD (dI .i64))]), sl 22 (aV false [(cD (dIc .i64 0))])] [eBox 4 [(cD (dI .i64)), (cD (dI .i64)), (cD (dI .i64)), (cD (dI .i64)), (cD (dI .i64)), (cD (dI .i64)), (cD (dI .i64)), (cD (dI .i64)), (cD (dI .i64))], eBox 5 [(cD (dI .i64)), (cD (dI .i64)), (cD (dI .i64)), (cD (dI .i64)), (cD (dI .i64)), (cD (dI .i64))], eBox 8 [(cD (dI .i64)), (cD (dI .i64)), (cD (dI .i64)), (cD (dI .i64)), (cD (dI .i64)), (cD (dI .i64))], eBox 10 [(cD (dI .i64)), (cD (dI .i64)), (cD (dI .i64)), (cD (dI .i64)), (cD (dI .i64)), (cD (dI .i64))], eBox 15 [(cD (dI .i64)), (cD (dI .i64))]]
def u23_0_0 {β : Type} (g : St → β) : Int → Int → Int → Int → Int → Int → Int → Int → Int → Int → Int → Int → Int → Int → Int → Int → Int → Int → Int → Int → Int → Int → Int → Int → Int → Int → Int → Int → Int → Int → Int → Int → Int → Int → Int → Int → Int → Int → Int → Int → β := p23_0_0.unc g
def p23_0_1 : PT St := pS [sl 2 (aV false [(cD (dI .i64))]), sl 3 (aV false [(cD (dI .i64))]), sl 4 (aV false [(cPtr 4 0)]), sl 5 (aV false [(cPtr 5 0)]), sl 8 (aV false [(cPtr 8 0)]), sl 10 (aV false [(cPtr 10 0)]), sl 11 (aV false [(cD (dIc .i64 0))]), sl 12 (aV false [(cD (dI .i64))]), sl 13 (aV false [(cD (dI .i64))]), sl 15 (aV false [(cPtr 15 0)]), sl 16 (aV false [(cD (dI .i64))]), sl 17 (aV false [(cD (dIc .i64 0))]), sl 21 (aV true [(cD (dI .i64)), (cD (dI .i64)), (cD (dI .i64)), (cD (dI .i64)), (cD (dI .i64)), (cD (dI .i64))]), sl 22 (aV false [(cD (dIc .i64 0))]), sl 33 (aV false [(cD dB)])] [eBox 4 [(cD (dI .i64)), (cD (dI .i64)), (cD (dI .i64)), (cD (dI .i64)), (cD (dI .i64)), (cD (dI .i64)), (cD (dI .i64)), (cD (dI .i64)), (cD (dI .i64))], eBox 5 [(cD (dI .i64)), (cD (dI .i64)), (cD (dI .i64)), (cD (dI .i64)), (cD (dI .i64)), (cD (dI .i64))], eBox 8 [(cD (dI .i64)), (cD (dI .i64)), (cD (dI .i64)), (cD (dI .i64)), (cD (dI .i64)), (cD (dI .i64))], eBox 10 [(cD (dI .i64)), (cD (dI .i64)), (cD (dI .i64)), (cD (dI .i64)), (cD (dI .i64)), (cD (dI .i64))], eBox 15 [(cD (dI .i64)), (cD (dI .i64))]]
def u23_0_1 {β : Type} (g : St → β) : Int → Int → Int → Int → Int → Int → Int → Int → Int → Int → Int → Bool → Int → Int → Int → Int → Int → Int → Int → Int → Int → Int → Int → Int → Int → Int → Int → Int → Int → Int → Int → Int → Int → Int → Int → Int → Int → Int → Int → Int → Int → β := p23_0_1.unc g
def p23_0_2 : PT St := pS [sl 2 (aV false [(cD (dI .i64))]), sl 3 (aV false [(cD (dI .i64))]), sl 4 (aV false [(cPtr 4 0)]), sl 5 (aV false [(cPtr 5 0)]), sl 8 (aV false [(cPtr 8 0)]), sl 10 (aV false [(cPtr 10 0)]), sl 11 (aV false [(cD (dIc .i64 0))]), sl 12 (aV false [(cD (dI .i64))]), sl 13 (aV false [(cD (dI .i64))]), sl 17 (aV false [(cD (dIc .i64 0))]), sl 21 (aV true [(cD (dI .i64)), (cD (dI .i64)), (cD (dI .i64)), (cD (dI .i64)), (cD (dI .i64)), (cD (dI .i64))]), sl 22 (aV false [(cD (dIc .i64 0))])] [eBox 4 [(cD (dI .i64)), (cD (dI .i64)), (cD (dI .i64)), (cD (dI .i64)), (cD (dI .i64)), (cD (dI .i64)), (cD (dI .i64)), (cD (dI .i64)), (cD (dI .i64))], eBox 5 [(cD (dI .i64)), (cD (dI .i64)), (cD (dI .i64)), (cD (dI .i64)), (cD (dI .i64)), (cD (dI .i64))], eBox 8 [(cD (dI .i64)), (cD (dI .i64)), (cD (dI .i64)), (cD (dI .i64)), (cD (dI .i64)), (cD (dI .i64))], eBox 10 [(cD (dI .i64)), (cD (dI .i64)), (cD (dI .i64)), (cD (dI .i64)), (cD (dI .i64)), (cD (dI .i64))]]
def u23_0_2 {β : Type} (g : St → β) : Int → Int → Int → Int → Int → Int → Int → Int → Int → Int → Int → Int → Int → Int → Int → Int → Int → Int → Int → Int → Int → Int → Int → Int → Int → Int → Int → Int → Int → Int → Int → Int → Int → Int → Int → Int → Int → β := p23_0_2.unc g
def p23_0_3 : PT St := pS [sl 2 (aV false [(cD (dI .i64))]), sl 3 (aV false [(cD (dI .i64))]), sl 4 (aV false [(cPtr 4 0)]), sl 5 (aV false [(cPtr 5 0)]), sl 8 (aV false [(cPtr 8 0)]), sl 10 (aV false [(cPtr 10 0)]), sl 11 (aV false [(cD (dIc .i64 0))]), sl 12 (aV false [(cD (dI .i64))]), sl 13 (aV false [(cD (dI .i64))]), sl 17 (aV false [(cD (dIc .i64 0))]), sl 21 (aV true [(cD (dI .i64)), (cD (dI .i64)), (cD (dI .i64)), (cD (dI .i64)), (cD (dI .i64)), (cD (dI .i64))]), sl 22 (aV false [(cD (dIc .i64 1))])] [eBox 4 [(cD (dI .i64)), (cD (dI .i64)), (cD (dI .i64)), (cD (dI .i64)), (cD (dI .i64)), (cD (dI .i64)), (cD (dI .i64)), (cD (dI .i64)), (cD (dI .i64))], eBox 5 [(cD (dI .i64)), (cD (dI .i64)), (cD (dI .i64)), (cD (dI .i64)), (cD (dI .i64)), (cD (dI .i64))], eBox 8 [(cD (dI .i64)), (cD (dI .i64)), (cD (dI .i64)), (cD (dI .i64)), (cD (dI .i64)), (cD (dI .i64))], eBox 10 [(cD (dI .i64)), (cD (dI .i64)), (cD (dI .i64)), (cD (dI .i64)), (cD (dI .i64)), (cD (dI .i64))]]
def u23_0_3 {β : Type} (g : St → β) : Int → Int → Int → Int → Int → Int → Int → Int → Int → Int → Int → Int → Int → Int → Int → Int → Int → Int → Int → Int → Int → Int → Int → Int → Int → Int → Int → Int → Int → Int → Int → Int → Int → Int → Int → Int → Int → β := p23_0_3.unc g
def p23_0_4 : PT St := pS [sl 2 (aV false [(cD (dI .i64))]), sl 3 (aV false [(cD (dI .i64))]), sl 4 (aV false [(cPtr 4 0)]), sl 5 (aV false [(cPtr 5 0)]), sl 8 (aV false [(cPtr 8 0)]), sl 10 (aV false [(cPtr 10 0)]), sl 11 (aV false [(cD (dIc .i64 0))]), sl 12 (aV false [(cD (dI .i64))]), sl 13 (aV false [(cD (dI .i64))]), sl 15 (aV false [(cPtr 15 0)]), sl 16 (aV false [(cD (dI .i64))]), sl 17 (aV false [(cD (dIc .i64 0))]), sl 21 (aV true [(cD (dI .i64)), (cD (dI .i64)), (cD (dI .i64)), (cD (dI .i64)), (cD (dI .i64)), (cD (dI .i64))]), sl 22 (aV false [(cD (dIc .i64 1))])] [eBox 4 [(cD (dI .i64)), (cD (dI .i64)), (cD (dI .i64)), (cD (dI .i64)), (cD (dI .i64)), (cD (dI .i64)), (cD (dI .i64)), (cD (dI .i64)), (cD (dI .i64))], eBox 5 [(cD (dI .i64)), (cD (dI .i64)), (cD (dI .i64)), (cD (dI .i64)), (cD (dI .i64)), (cD (dI .i64))], eBox 8 [(cD (dI .i64)), (cD (dI .i64)), (cD (dI .i64)), (cD (dI .i64)), (cD (dI .i64)), (cD (dI .i64))], eBox 10 [(cD (dI .i64)), (cD (dI .i64)), (cD (dI .i64)), (cD (dI .i64)), (cD (dI .i64)), (cD (dI .i64))], eBox 15 [(cD (dI .i64)), (cD (dI .i64))]]
def u23_0_4 {β : Type} (g : St → β) : Int → Int → Int → Int → Int → Int → Int → Int → Int → Int → Int → Int → Int → Int → Int → Int → Int → Int → Int → Int → Int → Int → Int → Int → Int → Int → Int → Int → Int → Int → Int → Int → Int → Int → Int → Int → Int → Int → Int → Int → β := p23_0_4.unc g
def p23_0_5 : PT St := pS [sl 2 (aV false [(cD (dI .i64))]), sl 3 (aV false [(cD (dI .i64))]), sl 4 (aV false [(cPtr 4 0)]), sl 5 (aV false [(cPtr 5 0)]), sl 8 (aV false [(cPtr 8 0)]), sl 10 (aV false [(cPtr 10 0)]), sl 11 (aV false [(cD (dIc .i64 0))]), sl 12 (aV false [(cD (dI .i64))]), sl 13 (aV false [(cD (dI .i64))]), sl 15 (aV false [(cPtr 15 0)]), sl 16 (aV false [(cD (dI .i64))]), sl 17 (aV false [(cD (dIc .i64 0))]), sl 21 (aV true [(cD (dI .i64)), (cD (dI .i64)), (cD (dI .i64)), (cD (dI .i64)), (cD (dI .i64)), (cD (dI .i64))]), sl 22 (aV false [(cD (dIc .i64 1))]), sl 33 (aV false [(cD dB)])] [eBox 4 [(cD (dI .i64)), (cD (dI .i64)), (cD (dI .i64)), (cD (dI .i64)), (cD (dI .i64)), (cD (dI .i64)), (cD (dI .i64)), (cD (dI .i64)), (cD (dI .i64))], eBox 5 [(cD (dI .i64)), (cD (dI .i64)), (cD (dI .i64)), (cD (dI .i64)), (cD (dI .i64)), (cD (dI .i64))], eBox 8 [(cD (dI .i64)), (cD (dI .i64)), (cD (dI .i64)), (cD (dI .i64)), (cD (dI .i64)), (cD (dI .i64))], eBox 10 [(cD (dI .i64)), (cD (dI .i64)), (cD (dI .i64)), (cD (dI .i64)), (cD (dI .i64)), (cD (dI .i64))], eBox 15 [(cD (dI .i64)), (cD (dI .i64))]]
def u23_0_5 {β : Type} (g : St → β) : Int → Int → Int → Int → Int → Int → Int → Int → Int → Int → Int → Bool → Int → Int → Int → Int → Int → Int → Int → Int → Int → Int → Int → Int → Int → Int → Int → Int → Int → Int → Int → Int → Int → Int → Int → Int → Int → Int → Int → Int → Int → β := p23_0_5.unc g
def p23_0_6 : PT St := pS [sl 2 (aV false [(cD (dI .i64))]), sl 3 (aV false [(cD (dI .i64))]), sl 4 (aV false [(cPtr 4 0)]), sl 5 (aV false [(cPtr 5 0)]), sl 8 (aV false [(cPtr 8 0)]), sl 10 (aV false [(cPtr 10 0)]), sl 11 (aV false [(cD (dIc .i64 0))]), sl 12 (aV false [(cD (dI .i64))]), sl 13 (aV false [(cD (dI .i64))]), sl 17 (aV false [(cD (dIc .i64 0))]), sl 21 (aV true [(cD (dI .i64)), (cD (dI .i64)), (cD (dI .i64)), (cD (dI .i64)), (cD (dI .i64)), (cD (dI .i64))]), sl 22 (aV false [(cD (dIc .i64 2))])] [eBox 4 [(cD (dI .i64)), (cD (dI .i64)), (cD (dI .i64)), (cD (dI .i64)), (cD (dI .i64)), (cD (dI .i64)), (cD (dI .i64)), (cD (dI .i64)), (cD (dI .i64))], eBox 5 [(cD (dI .i64)), (cD (dI .i64)), (cD (dI .i64)), (cD (dI .i64)), (cD (dI .i64)), (cD (dI .i64))], eBox 8 [(cD (dI .i64)), (cD (dI .i64)), (cD (dI .i64)), (cD (dI .i64)), (cD (dI .i64)), (cD (dI .i64))], eBox 10 [(cD (dI .i64)), (cD (dI .i64)), (cD (dI .i64)), (cD (dI .i64)), (cD (dI .i64)), (cD (dI .i64))]]
def u23_0_6 {β : Type} (g : St → β) : Int → Int → Int → Int → Int → Int → Int → Int → Int → Int → Int → Int → Int → Int → Int → Int → Int → Int → Int → Int → Int → Int → Int → Int → Int → Int → Int → Int → Int → Int → Int → Int → Int → Int → Int → Int → Int → β := p23_0_6.unc g
def p23_0_7 : PT St := pS [sl 2 (aV false [(cD (dI .i64))]), sl 3 (aV false [(cD (dI .i64))]), sl 4 (aV false [(cPtr 4 0)]), sl 5 (aV false [(cPtr 5 0)]), sl 8 (aV false [(cPtr 8 0)]), sl 10 (aV false [(cPtr 10 0)]), sl 11 (aV false [(cD (dIc .i64 0))]), sl 12 (aV false [(cD (dI .i64))]), sl 13 (aV false [(cD (dI .i64))]), sl 15 (aV false [(cPtr 15 0)]), sl 16 (aV false [(cD (dI .i64))]), sl 17 (aV false [(cD (dIc .i64 0))]), sl 21 (aV true [(cD (dI .i64)), (cD (dI .i64)), (cD (dI .i64)), (cD (dI .i64)), (cD (dI .i64)), (cD (dI .i64))]), sl 22 (aV false [(cD (dIc .i64 2))])] [eBox 4 [(cD (dI .i64)), (cD (dI .i64)), (cD (dI .i64)), (cD (dI .i64)), (cD (dI .i64)), (cD (dI .i64)), (cD (dI .i64)), (cD (dI .i64)), (cD (dI .i64))], eBox 5 [(cD (dI .i64)), (cD (dI .i64)), (cD (dI .i64)), (cD (dI .i64)), (cD (dI .i64)), (cD (dI .i64))], eBox 8 [(cD (dI .i64)), (cD (dI .i64)), (cD (dI .i64)), (cD (dI .i64)), (cD (dI .i64)), (cD (dI .i64))], eBox 10 [(cD (dI .i64)), (cD (dI .i64)), (cD (dI .i64)), (cD (dI .i64)), (cD (dI .i64)), (cD (dI .i64))], eBox 15 [(cD (dI .i64)), (cD (dI .i64))]]
def u23_0_7 {β : Type} (g : St → β) : Int → Int → Int → Int → Int → Int → Int → Int → Int → Int → Int → Int → Int → Int → Int → Int → Int → Int → Int → Int → Int → Int → Int → Int → Int → Int → Int → Int → Int → Int → Int → Int → Int → Int → Int → Int → Int → Int → Int → Int → β := p23_0_7.unc g
def p23_0_8 : PT St := pS [sl 2 (aV false [(cD (dI .i64))]), sl 3 (aV false [(cD (dI .i64))]), sl 4 (aV false [(cPtr 4 0)]), sl 5 (aV false [(cPtr 5 0)]), sl 8 (aV false [(cPtr 8 0)]), sl 10 (aV false [(cPtr 10 0)]), sl 11 (aV false [(cD (dIc .i64 0))]), sl 12 (aV false [(cD (dI .i64))]), sl 13 (aV false [(cD (dI .i64))]), sl 15 (aV false [(cPtr 15 0)]), sl 16 (aV false [(cD (dI .i64))]), sl 17 (aV false [(cD (dIc .i64 0))]), sl 21 (aV true [(cD (dI .i64)), (cD (dI .i64)), (cD (dI .i64)), (cD (dI .i64)), (cD (dI .i64)), (cD (dI .i64))]), sl 22 (aV false [(cD (dIc .i64 2))]), sl 33 (aV false [(cD dB)])] [eBox 4 [(cD (dI .i64)), (cD (dI .i64)), (cD (dI .i64)), (cD (dI .i64)), (cD (dI .i64)), (cD (dI .i64)), (cD (dI .i64)), (cD (dI .i64)), (cD (dI .i64))], eBox 5 [(cD (dI .i64)), (cD (dI .i64)), (cD (dI .i64)), (cD (dI .i64)), (cD (dI .i64)), (cD (dI .i64))], eBox 8 [(cD (dI .i64)), (cD (dI .i64)), (cD (dI .i64)), (cD (dI .i64)), (cD (dI .i64)), (cD (dI .i64))], eBox 10 [(cD (dI .i64)), (cD (dI .i64)), (cD (dI .i64)), (cD (dI .i64)), (cD (dI .i64)), (cD (dI .i64))], eBox 15 [(cD (dI .i64)), (cD (dI .i64))]]
def u23_0_8 {β : Type} (g : St → β) : Int → Int → Int → Int → Int → Int → Int → Int → Int → Int → Int → Bool → Int → Int → Int → Int → Int → Int → Int → Int → Int → Int → Int → Int → Int → Int → Int → Int → Int → Int → Int → Int → Int → Int → Int → Int → Int → Int → Int → Int → Int → β := p23_0_8.unc g
def p23_0_9 : PT St := pS [sl 2 (aV false [(cD (dI .i64))]), sl 3 (aV false [(cD (dI .i64))]), sl 4 (aV false [(cPtr 4 0)]), sl 5 (aV false [(cPtr 5 0)]), sl 8 (aV false [(cPtr 8 0)]), sl 10 (aV false [(cPtr 10 0)]), sl 11 (aV false [(cD (dIc .i64 0))]), sl 12 (aV false [(cD (dI .i64))]), sl 13 (aV false [(cD (dI .i64))]), sl 17 (aV false [(cD (dIc .i64 0))]), sl 21 (aV true [(cD (dI .i64)), (cD (dI .i64)), (cD (dI .i64)), (cD (dI .i64)), (cD (dI .i64)), (cD (dI .i64))]), sl 22 (aV false [(cD (dIc .i64 3))])] [eBox 4 [(cD (dI .i64)), (cD (dI .i64)), (cD (dI .i64)), (cD (dI .i64)), (cD (dI .i64)), (cD (dI .i64)), (cD (dI .i64)), (cD (dI .i64)), (cD (dI .i64))], eBox 5 [(cD (dI .i64)), (cD (dI .i64)), (cD (dI .i64)), (cD (dI .i64)), (cD (dI .i64)), (cD (dI .i64))], eBox 8 [(cD (dI .i64)), (cD (dI .i64)), (cD (dI .i64)), (cD (dI .i64)), (cD (dI .i64)), (cD (dI .i64))], eBox 10 [(cD (dI .i64)), (cD (dI .i64)), (cD (dI .i64)), (cD (dI .i64)), (cD (dI .i64)), (cD (dI .i64))]]
def u23_0_9 {β : Type} (g : St → β) : Int → Int → Int → Int → Int → Int → Int → Int → Int → Int → Int → Int → Int → Int → Int → Int → Int → Int → Int → Int → Int → Int → Int → Int → Int → Int → Int → Int → Int → Int → Int → Int → Int → Int → Int → Int → Int → β := p23_0_9.unc g
def p23_0_10 : PT St := pS [sl 2 (aV false [(cD (dI .i64))]), sl 3 (aV false [(cD (dI .i64))]), sl 4 (aV false [(cPtr 4 0)]), sl 5 (aV false [(cPtr 5 0)]), sl 8 (aV false [(cPtr 8 0)]), sl 10 (aV false [(cPtr 10 0)]), sl 11 (aV false [(cD (dIc .i64 1))]), sl 12 (aV false [(cD (dI .i64))]), sl 13 (aV false [(cD (dI .i64))]), sl 15 (aV false [(cPtr 15 0)]), sl 16 (aV false [(cD (dI .i64))]), sl 17 (aV false [(cD (dIc .i64 1))]), sl 21 (aV true [(cD (dI .i64)), (cD (dI .i64)), (cD (dI .i64)), (cD (dI .i64)), (cD (dI .i64)), (cD (dI .i64))]), sl 22 (aV false [(cD (dIc .i64 0))])] [eBox 4 [(cD (dI .i64)), (cD (dI .i64)), (cD (dI .i64)), (cD (dI .i64)), (cD (dI .i64)), (cD (dI .i64)), (cD (dI .i64)), (cD (dI .i64)), (cD (dI .i64))], eBox 5 [(cD (dI .i64)), (cD (dI .i64)), (cD (dI .i64)), (cD (dI .i64)), (cD (dI .i64)), (cD (dI .i64))], eBox 8 [(cD (dI .i64)), (cD (dI .i64)), (cD (dI .i64)), (cD (dI .i64)), (cD (dI .i64)), (cD (dI .i64))], eBox 10 [(cD (dI .i64)), (cD (dI .i64)), (cD (dI .i64)), (cD (dI .i64)), (cD (dI .i64)), (cD (dI .i64))], eBox 15 [(cD (dI .i64)), (cD (dI .i64))]]
def u23_0_10 {β : Type} (g : St → β) : Int → Int → Int → Int → Int → Int → Int → Int → Int → Int → Int → Int → Int → Int → Int → Int → Int → Int → Int → Int → Int → Int → Int → Int → Int → Int → Int → Int → Int → Int → Int → Int → Int → Int → Int → Int → Int → Int → Int → Int → β := p23_0_10.unc g
def p23_0_11 : PT St := pS [sl 2 (aV false [(cD (dI .i64))]), sl 3 (aV false [(cD (dI .i64))]), sl 4 (aV false [(cPtr 4 0)]), sl 5 (aV false [(cPtr 5 0)]), sl 8 (aV false [(cPtr 8 0)]), sl 10 (aV false [(cPtr 10 0)]), sl 11 (aV false [(cD (dIc .i64 1))]), sl 12 (aV false [(cD (dI .i64))]), sl 13 (aV false [(cD (dI .i64))]), sl 15 (aV false [(cPtr 15 0)]), sl 16 (aV false [(cD (dI .i64))]), sl 17 (aV false [(cD (dIc .i64 1))]), sl 21 (aV true [(cD (dI .i64)), (cD (dI .i64)), (cD (dI .i64)), (cD (dI .i64)), (cD (dI .i64)), (cD (dI .i64))]), sl 22 (aV false [(cD (dIc .i64 0))]), sl 33 (aV false [(cD dB)])] [eBox 4 [(cD (dI .i64)), (cD (dI .i64)), (cD (dI .i64)), (cD (dI .i64)), (cD (dI .i64)), (cD (dI .i64)), (cD (dI .i64)), (cD (dI .i64)), (cD (dI .i64))], eBox 5 [(cD (dI .i64)), (cD (dI .i64)), (cD (dI .i64)), (cD (dI .i64)), (cD (dI .i64)), (cD (dI .i64))], eBox 8 [(cD (dI .i64)), (cD (dI .i64)), (cD (dI .i64)), (cD (dI .i64)), (cD (dI .i64)), (cD (dI .i64))], eBox 10 [(cD (dI .i64)), (cD (dI .i64)), (cD (dI .i64)), (cD (dI .i64)), (cD (dI .i64)), (cD (dI .i64))], eBox 15 [(cD (dI .i64)), (cD (dI .i64))]]
def u23_0_11 {β : Type} (g : St → β) : Int → Int → Int → Int → Int → Int → Int → Int → Int → Int → Int → Bool → Int → Int → Int → Int → Int → Int → Int → Int → Int → Int → Int → Int → Int → Int → Int → Int → Int → Int → Int → Int → Int → Int → Int → Int → Int → Int → Int → Int → Int → β := p23_0_11.unc g
def p23_0_12 : PT St := pS [sl 2 (aV false [(cD (dI .i64))]), sl 3 (aV false [(cD (dI .i64))]), sl 4 (aV false [(cPtr 4 0)]), sl 5 (aV false [(cPtr 5 0)]), sl 8 (aV false [(cPtr 8 0)]), sl 10 (aV false [(cPtr 10 0)]), sl 11 (aV false [(cD (dIc .i64 1))]), sl 12 (aV false [(cD (dI .i64))]), sl 13 (aV false [(cD (dI .i64))]), sl 17 (aV false [(cD (dIc .i64 1))]), sl 21 (aV true [(cD (dI .i64)), (cD (dI .i64)), (cD (dI .i64)), (cD (dI .i64)), (cD (dI .i64)), (cD (dI .i64))]), sl 22 (aV false [(cD (dIc .i64 0))])] [eBox 4 [(cD (dI .i64)), (cD (dI .i64)), (cD (dI .i64)), (cD (dI .i64)), (cD (dI .i64)), (cD (dI .i64)), (cD (dI .i64)), (cD (dI .i64)), (cD (dI .i64))], eBox 5 [(cD (dI .i64)), (cD (dI .i64)), (cD (dI .i64)), (cD (dI .i64)), (cD (dI .i64)), (cD (dI .i64))], eBox 8 [(cD (dI .i64)), (cD (dI .i64)), (cD (dI .i64)), (cD (dI .i64)), (cD (dI .i64)), (cD (dI .i64))], eBox 10 [(cD (dI .i64)), (cD (dI .i64)), (cD (dI .i64)), (cD (dI .i64)), (cD (dI .i64)), (cD (dI .i64))]]
def u23_0_12 {β : Type} (g : St → β) : Int → Int → Int → Int → Int → Int → Int → Int → Int → Int → Int → Int → Int → Int → Int → Int → Int → Int → Int → Int → Int → Int → Int → Int → Int → Int → Int → Int → Int → Int → Int → Int → Int → Int → Int → Int → Int → β := p23_0_12.unc g
def p23_0_13 : PT St := pS [sl 2 (aV false [(cD (dI .i64))]), sl 3 (aV false [(cD (dI .i64))]), sl 4 (aV false [(cPtr 4 0)]), sl 5 (aV false [(cPtr 5 0)]), sl 8 (aV false [(cPtr 8 0)]), sl 10 (aV false [(cPtr 10 0)]), sl 11 (aV false [(cD (dIc .i64 1))]), sl 12 (aV false [(cD (dI .i64))]), sl 13 (aV false [(cD (dI .i64))]), sl 17 (aV false [(cD (dIc .i64 1))]), sl 21 (aV true [(cD (dI .i64)), (cD (dI .i64)), (cD (dI .i64)), (cD (dI .i64)), (cD (dI .i64)), (cD (dI .i64))]), sl 22 (aV false [(cD (dIc .i64 1))])] [eBox 4 [(cD (dI .i64)), (cD (dI .i64)), (cD (dI .i64)), (cD (dI .i64)), (cD (dI .i64)), (cD (dI .i64)), (cD (dI .i64)), (cD (dI .i64)), (cD (dI .i64))], eBox 5 [(cD (dI .i64)), (cD (dI .i64)), (cD (dI .i64)), (cD (dI .i64)), (cD (dI .i64)), (cD (dI .i64))], eBox 8 [(cD (dI .i64)), (cD (dI .i64)), (cD (dI .i64)), (cD (dI .i64)), (cD (dI .i64)), (cD (dI .i64))], eBox 10 [(cD (dI .i64)), (cD (dI .i64)), (cD (dI .i64)), (cD (dI .i64)), (cD (dI .i64)), (cD (dI .i64))]]
def u23_0_13 {β : Type} (g : St → β) : Int → Int → Int → Int → Int → Int → Int → Int → Int → Int → Int → Int → Int → Int → Int → Int → Int → Int → Int → Int → Int → Int → Int → Int → Int → Int → Int → Int → Int → Int → Int → Int → Int → Int → Int → Int → Int → β := p23_0_13.unc g
def p23_0_14 : PT St := pS [sl 2 (aV false [(cD (dI .i64))]), sl 3 (aV false [(cD (dI .i64))]), sl 4 (aV false [(cPtr 4 0)]), sl 5 (aV false [(cPtr 5 0)]), sl 8 (aV false [(cPtr 8 0)]), sl 10 (aV false [(cPtr 10 0)]), sl 11 (aV false [(cD (dIc .i64 1))]), sl 12 (aV false [(cD (dI .i64))]), sl 13 (aV false [(cD (dI .i64))]), sl 15 (aV false [(cPtr 15 0)]), sl 16 (aV false [(cD (dI .i64))]), sl 17 (aV false [(cD (dIc .i64 1))]), sl 21 (aV true [(cD (dI .i64)), (cD (dI .i64)), (cD (dI .i64)), (cD (dI .i64)), (cD (dI .i64)), (cD (dI .i64))]), sl 22 (aV false [(cD (dIc .i64 1))])] [eBox 4 [(cD (dI .i64)), (cD (dI .i64)), (cD (dI .i64)), (cD (dI .i64)), (cD (dI .i64)), (cD (dI .i64)), (cD (dI .i64)), (cD (dI .i64)), (cD (dI .i64))], eBox 5 [(cD (dI .i64)), (cD (dI .i64)), (cD (dI .i64)), (cD (dI .i64)), (cD (dI .i64)), (cD (dI .i64))], eBox 8 [(cD (dI .i64)), (cD (dI .i64)), (cD (dI .i64)), (cD (dI .i64)), (cD (dI .i64)), (cD (dI .i64))], eBox 10 [(cD (dI .i64)), (cD (dI .i64)), (cD (dI .i64)), (cD (dI .i64)), (cD (dI .i64)), (cD (dI .i64))], eBox 15 [(cD (dI .i64)), (cD (dI .i64))]]
def u23_0_14 {β : Type} (g : St → β) : Int → Int → Int → Int → Int → Int → Int → Int → Int → Int → Int → Int → Int → Int → Int → Int → Int → Int → Int → Int → Int → Int → Int → Int → Int → Int → Int → Int → Int → Int → Int → Int → Int → Int → Int → Int → Int → Int → Int → Int → β := p23_0_14.unc g
def p23_0_15 : PT St := pS [sl 2 (aV false [(cD (dI .i64))]), sl 3 (aV false [(cD (dI .i64))]), sl 4 (aV false [(cPtr 4 0)]), sl 5 (aV false [(cPtr 5 0)]), sl 8 (aV false [(cPtr 8 0)]), sl 10 (aV false [(cPtr 10 0)]), sl 11 (aV false [(cD (dIc .i64 1))]), sl 12 (aV false [(cD (dI .i64))]), sl 13 (aV false [(cD (dI .i64))]), sl 15 (aV false [(cPtr 15 0)]), sl 16 (aV false [(cD (dI .i64))]), sl 17 (aV false [(cD (dIc .i64 1))]), sl 21 (aV true [(cD (dI .i64)), (cD (dI .i64)), (cD (dI .i64)), (cD (dI .i64)), (cD (dI .i64)), (cD (dI .i64))]), sl 22 (aV false [(cD (dIc .i64 1))]), sl 33 (aV false [(cD dB)])] [eBox 4 [(cD (dI .i64)), (cD (dI .i64)), (cD (dI .i64)), (cD (dI .i64)), (cD (dI .i64)), (cD (dI .i64)), (cD (dI .i64)), (cD (dI .i64)), (cD (dI .i64))], eBox 5 [(cD (dI .i64)), (cD (dI .i64)), (cD (dI .i64)), (cD (dI .i64)), (cD (dI .i64)), (cD (dI .i64))], eBox 8 [(cD (dI .i64)), (cD (dI .i64)), (cD (dI .i64)), (cD (dI .i64)), (cD (dI .i64)), (cD (dI .i64))], eBox 10 [(cD (dI .i64)), (cD (dI .i64)), (cD (dI .i64)), (cD (dI .i64)), (cD (dI .i64)), (cD (dI .i64))], eBox 15 [(cD (dI .i64)), (cD (dI .i64))]]
def u23_0_15 {β : Type} (g : St → β) : Int → Int → Int → Int → Int → Int → Int → Int → Int → Int → Int → Bool → Int → Int → Int → Int → Int → Int → Int → Int → Int → Int → Int → Int → Int → Int → Int → Int → Int → Int → Int → Int → Int → Int → Int → Int → Int → Int → Int → Int → Int → β := p23_0_15.unc g
def p23_0_16 : PT St := pS [sl 2 (aV false [(cD (dI .i64))]), sl 3 (aV false [(cD (dI .i64))]), sl 4 (aV false [(cPtr 4 0)]), sl 5 (aV false [(cPtr 5 0)]), sl 8 (aV false [(cPtr 8 0)]), sl 10 (aV false [(cPtr 10 0)]), sl 11 (aV false [(cD (dIc .i64 1))]), sl 12 (aV false [(cD (dI .i64))]), sl 13 (aV false [(cD (dI .i64))]), sl 17 (aV false [(cD (dIc .i64 1))]), sl 21 (aV true [(cD (dI .i64)), (cD (dI .i64)), (cD (dI .i64)), (cD (dI .i64)), (cD (dI .i64)), (cD (dI .i64))]), sl 22 (aV false [(cD (dIc .i64 2))])] [eBox 4 [(cD (dI .i64)), (cD (dI .i64)), (cD (dI .i64)), (cD (dI .i64)), (cD (dI .i64)), (cD (dI .i64)), (cD (dI .i64)), (cD (dI .i64)), (cD (dI .i64))], eBox 5 [(cD (dI .i64)), (cD (dI .i64)), (cD (dI .i64)), (cD (dI .i64)), (cD (dI .i64)), (cD (dI .i64))], eBox 8 [(cD (dI .i64)), (cD (dI .i64)), (cD (dI .i64)), (cD (dI .i64)), (cD (dI .i64)), (cD (dI .i64))], eBox 10 [(cD (dI .i64)), (cD (dI .i64)), (cD (dI .i64)), (cD (dI .i64)), (cD (dI .i64)), (cD (dI .i64))]]
def u23_0_16 {β : Type} (g : St → β) : Int → Int → Int → Int → Int → Int → Int → Int → Int → Int → Int → Int → Int → Int → Int → Int → Int → Int → Int → Int → Int → Int → Int → Int → Int → Int → Int → Int → Int → Int → Int → Int → Int → Int → Int → Int → Int → β := p23_0_16.unc g
def p23_0_17 : PT St := pS [sl 2 (aV false [(cD (dI .i64))]), sl 3 (aV false [(cD (dI .i64))]), sl 4 (aV false [(cPtr 4 0)]), sl 5 (aV false [(cPtr 5 0)]), sl 8 (aV false [(cPtr 8 0)]), sl 10 (aV false [(cPtr 10 0)]), sl 11 (aV false [(cD (dIc .i64 1))]), sl 12 (aV false [(cD (dI .i64))]), sl 13 (aV false [(cD (dI .i64))]), sl 15 (aV false [(cPtr 15 0)]), sl 16 (aV false [(cD (dI .i64))]), sl 17 (aV false [(cD (dIc .i64 1))]), sl 21 (aV true [(cD (dI .i64)), (cD (dI .i64)), (cD (dI .i64)), (cD (dI .i64)), (cD (dI .i64)), (cD (dI .i64))]), sl 22 (aV false [(cD (dIc .i64 2))])] [eBox 4 [(cD (dI .i64)), (cD (dI .i64)), (cD (dI .i64)), (cD (dI .i64)), (cD (dI .i64)), (cD (dI .i64)), (cD (dI .i64)), (cD (dI .i64)), (cD (dI .i64))], eBox 5 [(cD (dI .i64)), (cD (dI .i64)), (cD (dI .i64)), (cD (dI .i64)), (cD (dI .i64)), (cD (dI .i64))], eBox 8 [(cD (dI .i64)), (cD (dI .i64)), (cD (dI .i64)), (cD (dI .i64)), (cD (dI .i64)), (cD (dI .i64))], eBox 10 [(cD (dI .i64)), (cD (dI .i64)), (cD (dI .i64)), (cD (dI .i64)), (cD (dI .i64)), (cD (dI .i64))], eBox 15 [(cD (dI .i64)), (cD (dI .i64))]]
def u23_0_17 {β : Type} (g : St → β) : Int → Int → Int → Int → Int → Int → Int → Int → Int → Int → Int → Int → Int → Int → Int → Int → Int → Int → Int → Int → Int → Int → Int → Int → Int → Int → Int → Int → Int → Int → Int → Int → Int → Int → Int → Int → Int → Int → Int → Int → β := p23_0_17.unc g
def p23_0_18 : PT St := pS [sl 2 (aV false [(cD (dI .i64))]), sl 3 (aV false [(cD (dI .i64))]), sl 4 (aV false [(cPtr 4 0)]), sl 5 (aV false [(cPtr 5 0)]), sl 8 (aV false [(cPtr 8 0)]), sl 10 (aV false [(cPtr 10 0)]), sl 11 (aV false [(cD (dIc .i64 1))]), sl 12 (aV false [(cD (dI .i64))]), sl 13 (aV false [(cD (dI .i64))]), sl 15 (aV false [(cPtr 15 0)]), sl 16 (aV false [(cD (dI .i64))]), sl 17 (aV false [(cD (dIc .i64 1))]), sl 21 (aV true [(cD (dI .i64)), (cD (dI .i64)), (cD (dI .i64)), (cD (dI .i64)), (cD (dI .i64)), (cD (dI .i64))]), sl 22 (aV false [(cD (dIc .i64 2))]), sl 33 (aV false [(cD dB)])] [eBox 4 [(cD (dI .i64)), (cD (dI .i64)), (cD (dI .i64)), (cD (dI .i64)), (cD (dI .i64)), (cD (dI .i64)), (cD (dI .i64)), (cD (dI .i64)), (cD (dI .i64))], eBox 5 [(cD (dI .i64)), (cD (dI .i64)), (cD (dI .i64)), (cD (dI .i64)), (cD (dI .i64)), (cD (dI .i64))], eBox 8 [(cD (dI .i64)), (cD (dI .i64)), (cD (dI .i64)), (cD (dI .i64)), (cD (dI .i64)), (cD (dI .i64))], eBox 10 [(cD (dI .i64)), (cD (dI .i64)), (cD (dI .i64)), (cD (dI .i64)), (cD (dI .i64)), (cD (dI .i64))], eBox 15 [(cD (dI .i64)), (cD (dI .i64))]]
def u23_0_18 {β : Type} (g : St → β) : Int → Int → Int → Int → Int → Int → Int → Int → Int → Int → Int → Bool → Int → Int → Int → Int → Int → Int → Int → Int → Int → Int → Int → Int → Int → Int → Int → Int → Int → Int → Int → Int → Int → Int → Int → Int → Int → Int → Int → Int → Int → β := p23_0_18.unc g
def p23_0_19 : PT St := pS [sl 2 (aV false [(cD (dI .i64))]), sl 3 (aV false [(cD (dI .i64))]), sl 4 (aV false [(cPtr 4 0)]), sl 5 (aV false [(cPtr 5 0)]), sl 8 (aV false [(cPtr 8 0)]), sl 10 (aV false [(cPtr 10 0)]), sl 11 (aV false [(cD (dIc .i64 1))]), sl 12 (aV false [(cD (dI .i64))]), sl 13 (aV false [(cD (dI .i64))]), sl 17 (aV false [(cD (dIc .i64 1))]), sl 21 (aV true [(cD (dI .i64)), (cD (dI .i64)), (cD (dI .i64)), (cD (dI .i64)), (cD (dI .i64)), (cD (dI .i64))]), sl 22 (aV false [(cD (dIc .i64 3))])] [eBox 4 [(cD (dI .i64)), (cD (dI .i64)), (cD (dI .i64)), (cD (dI .i64)), (cD (dI .i64)), (cD (dI .i64)), (cD (dI .i64)), (cD (dI .i64)), (cD (dI .i64))], eBox 5 [(cD (dI .i64)), (cD (dI .i64)), (cD (dI .i64)), (cD (dI .i64)), (cD (dI .i64)), (cD (dI .i64))], eBox 8 [(cD (dI .i64)), (cD (dI .i64)), (cD (dI .i64)), (cD (dI .i64)), (cD (dI .i64)), (cD (dI .i64))], eBox 10 [(cD (dI .i64)), (cD (dI .i64)), (cD (dI .i64)), (cD (dI .i64)), (cD (dI .i64)), (cD (dI .i64))]]
def u23_0_19 {β : Type} (g : St → β) : Int → Int → Int → Int → Int → Int → Int → Int → Int → Int → Int → Int → Int → Int → Int → Int → Int → Int → Int → Int → Int → Int → Int → Int → Int → Int → Int → Int → Int → Int → Int → Int → Int → Int → Int → Int → Int → β := p23_0_19.unc g
def p23_0_20 : PT St := pS [sl 2 (aV false [(cD (dI .i64))]), sl 3 (aV false [(cD (dI .i64))]), sl 4 (aV false [(cPtr 4 0)]), sl 5 (aV false [(cPtr 5 0)]), sl 8 (aV false [(cPtr 8 0)]), sl 10 (aV false [(cPtr 10 0)]), sl 11 (aV false [(cD (dIc .i64 2))]), sl 12 (aV false [(cD (dI .i64))]), sl 13 (aV false [(cD (dI .i64))]), sl 15 (aV false [(cPtr 15 0)]), sl 16 (aV false [(cD (dI .i64))]), sl 17 (aV false [(cD (dIc .i64 2))]), sl 21 (aV true [(cD (dI .i64)), (cD (dI .i64)), (cD (dI .i64)), (cD (dI .i64)), (cD (dI .i64)), (cD (dI .i64))]), sl 22 (aV false [(cD (dIc .i64 0))])] [eBox 4 [(cD (dI .i64)), (cD (dI .i64)), (cD (dI .i64)), (cD (dI .i64)), (cD (dI .i64)), (cD (dI .i64)), (cD (dI .i64)), (cD (dI .i64)), (cD (dI .i64))], eBox 5 [(cD (dI .i64)), (cD (dI .i64)), (cD (dI .i64)), (cD (dI .i64)), (cD (dI .i64)), (cD (dI .i64))], eBox 8 [(cD (dI .i64)), (cD (dI .i64)), (cD (dI .i64)), (cD (dI .i64)), (cD (dI .i64)), (cD (dI .i64))], eBox 10 [(cD (dI .i64)), (cD (dI .i64)), (cD (dI .i64)), (cD (dI .i64)), (cD (dI .i64)), (cD (dI .i64))], eBox 15 [(cD (dI .i64)), (cD (dI .i64))]]
def u23_0_20 {β : Type} (g : St → β) : Int → Int → Int → Int → Int → Int → Int → Int → Int → Int → Int → Int → Int → Int → Int → Int → Int → Int → Int → Int → Int → Int → Int → Int → Int → Int → Int → Int → Int → Int → Int → Int → Int → Int → Int → Int → Int → Int → Int → Int → β := p23_0_20.unc g
def p23_0_21 : PT St := pS [sl 2 (aV false [(cD (dI .i64))]), sl 3 (aV false [(cD (dI .i64))]), sl 4 (aV false [(cPtr 4 0)]), sl 5 (aV false [(cPtr 5 0)]), sl 8 (aV false [(cPtr 8 0)]), sl 10 (aV false [(cPtr 10 0)]), sl 11 (aV false [(cD (dIc .i64 2))]), sl 12 (aV false [(cD (dI .i64))]), sl 13 (aV false [(cD (dI .i64))]), sl 15 (aV false [(cPtr 15 0)]), sl 16 (aV false [(cD (dI .i64))]), sl 17 (aV false [(cD (dIc .i64 2))]), sl 21 (aV true [(cD (dI .i64)), (cD (dI .i64)), (cD (dI .i64)), (cD (dI .i64)), (cD (dI .i64)), (cD (dI .i64))]), sl 22 (aV false [(cD (dIc .i64 0))]), sl 33 (aV false [(cD dB)])] [eBox 4 [(cD (dI .i64)), (cD (dI .i64)), (cD (dI .i64)), (cD (dI .i64)), (cD (dI .i64)), (cD (dI .i64)), (cD (dI .i64)), (cD (dI .i64)), (cD (dI .i64))], eBox 5 [(cD (dI .i64)), (cD (dI .i64)), (cD (dI .i64)), (cD (dI .i64)), (cD (dI .i64)), (cD (dI .i64))], eBox 8 [(cD (dI .i64)), (cD (dI .i64)), (cD (dI .i64)), (cD (dI .i64)), (cD (dI .i64)), (cD (dI .i64))], eBox 10 [(cD (dI .i64)), (cD (dI .i64)), (cD (dI .i64)), (cD (dI .i64)), (cD (dI .i64)), (cD (dI .i64))], eBox 15 [(cD (dI .i64)), (cD (dI .i64))]]
def u23_0_21 {β : Type} (g : St → β) : Int → Int → Int → Int → Int → Int → Int → Int → Int → Int → Int → Bool → Int → Int → Int → Int → Int → Int → Int → Int → Int → Int → Int → Int → Int → Int → Int → Int → Int → Int → Int → Int → Int → Int → Int → Int → Int → Int → Int → Int → Int → β := p23_0_21.unc g
def p23_0_22 : PT St := pS [sl 2 (aV false [(cD (dI .i64))]), sl 3 (aV false [(cD (dI .i64))]), sl 4 (aV false [(cPtr 4 0)]), sl 5 (aV false [(cPtr 5 0)]), sl 8 (aV false [(cPtr 8 0)]), sl 10 (aV false [(cPtr 10 0)]), sl 11 (aV false [(cD (dIc .i64 2))]), sl 12 (aV false [(cD (dI .i64))]), sl 13 (aV false [(cD (dI .i64))]), sl 17 (aV false [(cD (dIc .i64 2))]), sl 21 (aV true [(cD (dI .i64)), (cD (dI .i64)), (cD (dI .i64)), (cD (dI .i64)), (cD (dI .i64)), (cD (dI .i64))]), sl 22 (aV false [(cD (dIc .i64 0))])] [eBox 4 [(cD (dI .i64)), (cD (dI .i64)), (cD (dI .i64)), (cD (dI .i64)), (cD (dI .i64)), (cD (dI .i64)), (cD (dI .i64)), (cD (dI .i64)), (cD (dI .i64))], eBox 5 [(cD (dI .i64)), (cD (dI .i64)), (cD (dI .i64)), (cD (dI .i64)), (cD (dI .i64)), (cD (dI .i64))], eBox 8 [(cD (dI .i64)), (cD (dI .i64)), (cD (dI .i64)), (cD (dI .i64)), (cD (dI .i64)), (cD (dI .i64))], eBox 10 [(cD (dI .i64)), (cD (dI .i64)), (cD (dI .i64)), (cD (dI .i64)), (cD (dI .i64)), (cD (dI .i64))]]
def u23_0_22 {β : Type} (g : St → β) : Int → Int → Int → Int → Int → Int → Int → Int → Int → Int → Int → Int → Int → Int → Int → Int → Int → Int → Int → Int → Int → Int → Int → Int → Int → Int → Int → Int → Int → Int → Int → Int → Int → Int → Int → Int → Int → β := p23_0_22.unc g
def p23_0_23 : PT St := pS [sl 2 (aV false [(cD (dI .i64))]), sl 3 (aV false [(cD (dI .i64))]), sl 4 (aV false [(cPtr 4 0)]), sl 5 (aV false [(cPtr 5 0)]), sl 8 (aV false [(cPtr 8 0)]), sl 10 (aV false [(cPtr 10 0)]), sl 11 (aV false [(cD (dIc .i64 2))]), sl 12 (aV false [(cD (dI .i64))]), sl 13 (aV false [(cD (dI .i64))]), sl 17 (aV false [(cD (dIc .i64 2))]), sl 21 (aV true [(cD (dI .i64)), (cD (dI .i64)), (cD (dI .i64)), (cD (dI .i64)), (cD (dI .i64)), (cD (dI .i64))]), sl 22 (aV false [(cD (dIc .i64 1))])] [eBox 4 [(cD (dI .i64)), (cD (dI .i64)), (cD (dI .i64)), (cD (dI .i64)), (cD (dI .i64)), (cD (dI .i64)), (cD (dI .i64)), (cD (dI .i64)), (cD (dI .i64))], eBox 5 [(cD (dI .i64)), (cD (dI .i64)), (cD (dI .i64)), (cD (dI .i64)), (cD (dI .i64)), (cD (dI .i64))], eBox 8 [(cD (dI .i64)), (cD (dI .i64)), (cD (dI .i64)), (cD (dI .i64)), (cD (dI .i64)), (cD (dI .i64))], eBox 10 [(cD (dI .i64)), (cD (dI .i64)), (cD (dI .i64)), (cD (dI .i64)), (cD (dI .i64)), (cD (dI .i64))]]
def u23_0_23 {β : Type} (g : St → β) : Int → Int → Int → Int → Int → Int → Int → Int → Int → Int → Int → Int → Int → Int → Int → Int → Int → Int → Int → Int → Int → Int → Int → Int → Int → Int → Int → Int → Int → Int → Int → Int → Int → Int → Int → Int → Int → β := p23_0_23.unc g
def p23_0_24 : PT St := pS [sl 2 (aV false [(cD (dI .i64))]), sl 3 (aV false [(cD (dI .i64))]), sl 4 (aV false [(cPtr 4 0)]), sl 5 (aV false [(cPtr 5 0)]), sl 8 (aV false [(cPtr 8 0)]), sl 10 (aV false [(cPtr 10 0)]), sl 11 (aV false [(cD (dIc .i64 2))]), sl 12 (aV false [(cD (dI .i64))]), sl 13 (aV false [(cD (dI .i64))]), sl 15 (aV false [(cPtr 15 0)]), sl 16 (aV false [(cD (dI .i64))]), sl 17 (aV false [(cD (dIc .i64 2))]), sl 21 (aV true [(cD (dI .i64)), (cD (dI .i64)), (cD (dI .i64)), (cD (dI .i64)), (cD (dI .i64)), (cD (dI .i64))]), sl 22 (aV false [(cD (dIc .i64 1))])] [eBox 4 [(cD (dI .i64)), (cD (dI .i64)), (cD (dI .i64)), (cD (dI .i64)), (cD (dI .i64)), (cD (dI .i64)), (cD (dI .i64)), (cD (dI .i64)), (cD (dI .i64))], eBox 5 [(cD (dI .i64)), (cD (dI .i64)), (cD (dI .i64)), (cD (dI .i64)), (cD (dI .i64)), (cD (dI .i64))], eBox 8 [(cD (dI .i64)), (cD (dI .i64)), (cD (dI .i64)), (cD (dI .i64)), (cD (dI .i64)), (cD (dI .i64))], eBox 10 [(cD (dI .i64)), (cD (dI .i64)), (cD (dI .i64)), (cD (dI .i64)), (cD (dI .i64)), (cD (dI .i64))], eBox 15 [(cD (dI .i64)), (cD (dI .i64))]]
def u23_0_24 {β : Type} (g : St → β) : Int → Int → Int → Int → Int → Int → Int → Int → Int → Int → Int → Int → Int → Int → Int → Int → Int → Int → Int → Int → Int → Int → Int → Int → Int → Int → Int → Int → Int → Int → Int → Int → Int → Int → Int → Int → Int → Int → Int → Int → β := p23_0_24.unc g
def p23_0_25 : PT St := pS [sl 2 (aV false [(cD (dI .i64))]), sl 3 (aV false [(cD (dI .i64))]), sl 4 (aV false [(cPtr 4 0)]), sl 5 (aV false [(cPtr 5 0)]), sl 8 (aV false [(cPtr 8 0)]), sl 10 (aV false [(cPtr 10 0)]), sl 11 (aV false [(cD (dIc .i64 2))]), sl 12 (aV false [(cD (dI .i64))]), sl 13 (aV false [(cD (dI .i64))]), sl 15 (aV false [(cPtr 15 0)]), sl 16 (aV false [(cD (dI .i64))]), sl 17 (aV false [(cD (dIc .i64 2))]), sl 21 (aV true [(cD (dI .i64)), (cD (dI .i64)), (cD (dI .i64)), (cD (dI .i64)), (cD (dI .i64)), (cD (dI .i64))]), sl 22 (aV false [(cD (dIc .i64 1))]), sl 33 (aV false [(cD dB)])] [eBox 4 [(cD (dI .i64)), (cD (dI .i64)), (cD (dI .i64)), (cD (dI .i64)), (cD (dI .i64)), (cD (dI .i64)), (cD (dI .i64)), (cD (dI .i64)), (cD (dI .i64))], eBox 5 [(cD (dI .i64)), (cD (dI .i64)), (cD (dI .i64)), (cD (dI .i64)), (cD (dI .i64)), (cD (dI .i64))], eBox 8 [(cD (dI .i64)), (cD (dI .i64)), (cD (dI .i64)), (cD (dI .i64)), (cD (dI .i64)), (cD (dI .i64))], eBox 10 [(cD (dI .i64)), (cD (dI .i64)), (cD (dI .i64)), (cD (dI .i64)), (cD (dI .i64)), (cD (dI .i64))], eBox 15 [(cD (dI .i64)), (cD (dI .i64))]]
def u23_0_25 {β : Type} (g : St → β) : Int → Int → Int → Int → Int → Int → Int → Int → Int → Int → Int → Bool → Int → Int → Int → Int → Int → Int → Int → Int → Int → Int → Int → Int → Int → Int → Int → Int → Int → Int → Int → Int → Int → Int → Int → Int → Int → Int → Int → Int → Int → β := p23_0_25.unc g
def p23_0_26 : PT St := pS [sl 2 (aV false [(cD (dI .i64))]), sl 3 (aV false [(cD (dI .i64))]), sl 4 (aV false [(cPtr 4 0)]), sl 5 (aV false [(cPtr 5 0)]), sl 8 (aV false [(cPtr 8 0)]), sl 10 (aV false [(cPtr 10 0)]), sl 11 (aV false [(cD (dIc .i64 2))]), sl 12 (aV false [(cD (dI .i64))]), sl 13 (aV false [(cD (dI .i64))]), sl 17 (aV false [(cD (dIc .i64 2))]), sl 21 (aV true [(cD (dI .i64)), (cD (dI .i64)), (cD (dI .i64)), (cD (dI .i64)), (cD (dI .i64)), (cD (dI .i64))]), sl 22 (aV false [(cD (dIc .i64 2))])] [eBox 4 [(cD (dI .i64)), (cD (dI .i64)), (cD (dI .i64)), (cD (dI .i64)), (cD (dI .i64)), (cD (dI .i64)), (cD (dI .i64)), (cD (dI .i64)), (cD (dI .i64))], eBox 5 [(cD (dI .i64)), (cD (dI .i64)), (cD (dI .i64)), (cD (dI .i64)), (cD (dI .i64)), (cD (dI .i64))], eBox 8 [(cD (dI .i64)), (cD (dI .i64)), (cD (dI .i64)), (cD (dI .i64)), (cD (dI .i64)), (cD (dI .i64))], eBox 10 [(cD (dI .i64)), (cD (dI .i64)), (cD (dI .i64)), (cD (dI .i64)), (cD (dI .i64)), (cD (dI .i64))]]
def u23_0_26 {β : Type} (g : St → β) : Int → Int → Int → Int → Int → Int → Int → Int → Int → Int → Int → Int → Int → Int → Int → Int → Int → Int → Int → Int → Int → Int → Int → Int → Int → Int → Int → Int → Int → Int → Int → Int → Int → Int → Int → Int → Int → β := p23_0_26.unc g
def p23_0_27 : PT St := pS [sl 2 (aV false [(cD (dI .i64))]), sl 3 (aV false [(cD (dI .i64))]), sl 4 (aV false [(cPtr 4 0)]), sl 5 (aV false [(cPtr 5 0)]), sl 8 (aV false [(cPtr 8 0)]), sl 10 (aV false [(cPtr 10 0)]), sl 11 (aV false [(cD (dIc .i64 2))]), sl 12 (aV false [(cD (dI .i64))]), sl 13 (aV false [(cD (dI .i64))]), sl 15 (aV false [(cPtr 15 0)]), sl 16 (aV false [(cD (dI .i64))]), sl 17 (aV false [(cD (dIc .i64 2))]), sl 21 (aV true [(cD (dI .i64)), (cD (dI .i64)), (cD (dI .i64)), (cD (dI .i64)), (cD (dI .i64)), (cD (dI .i64))]), sl 22 (aV false [(cD (dIc .i64 2))])] [eBox 4 [(cD (dI .i64)), (cD (dI .i64)), (cD (dI .i64)), (cD (dI .i64)), (cD (dI .i64)), (cD (dI .i64)), (cD (dI .i64)), (cD (dI .i64)), (cD (dI .i64))], eBox 5 [(cD (dI .i64)), (cD (dI .i64)), (cD (dI .i64)), (cD (dI .i64)), (cD (dI .i64)), (cD (dI .i64))], eBox 8 [(cD (dI .i64)), (cD (dI .i64)), (cD (dI .i64)), (cD (dI .i64)), (cD (dI .i64)), (cD (dI .i64))], eBox 10 [(cD (dI .i64)), (cD (dI .i64)), (cD (dI .i64)), (cD (dI .i64)), (cD (dI .i64)), (cD (dI .i64))], eBox 15 [(cD (dI .i64)), (cD (dI .i64))]]
def u23_0_27 {β : Type} (g : St → β) : Int → Int → Int → Int → Int → Int → Int → Int → Int → Int → Int → Int → Int → Int → Int → Int → Int → Int → Int → Int → Int → Int → Int → Int → Int → Int → Int → Int → Int → Int → Int → Int → Int → Int → Int → Int → Int → Int → Int → Int → β := p23_0_27.unc g
def p23_0_28 : PT St := pS [sl 2 (aV false [(cD (dI .i64))]), sl 3 (aV false [(cD (dI .i64))]), sl 4 (aV false [(cPtr 4 0)]), sl 5 (aV false [(cPtr 5 0)]), sl 8 (aV false [(cPtr 8 0)]), sl 10 (aV false [(cPtr 10 0)]), sl 11 (aV false [(cD (dIc .i64 2))]), sl 12 (aV false [(cD (dI .i64))]), sl 13 (aV false [(cD (dI .i64))]), sl 15 (aV false [(cPtr 15 0)]), sl 16 (aV false [(cD (dI .i64))]), sl 17 (aV false [(cD (dIc .i64 2))]), sl 21 (aV true [(cD (dI .i64)), (cD (dI .i64)), (cD (dI .i64)), (cD (dI .i64)), (cD (dI .i64)), (cD (dI .i64))]), sl 22 (aV false [(cD (dIc .i64 2))]), sl 33 (aV false [(cD dB)])] [eBox 4 [(cD (dI .i64)), (cD (dI .i64)), (cD (dI .i64)), (cD (dI .i64)), (cD (dI .i64)), (cD (dI .i64)), (cD (dI .i64)), (cD (dI .i64)), (cD (dI .i64))], eBox 5 [(cD (dI .i64)), (cD (dI .i64)), (cD (dI .i64)), (cD (dI .i64)), (cD (dI .i64)), (cD (dI .i64))], eBox 8 [(cD (dI .i64)), (cD (dI .i64)), (cD (dI .i64)), (cD (dI .i64)), (cD (dI .i64)), (cD (dI .i64))], eBox 10 [(cD (dI .i64)), (cD (dI .i64)), (cD (dI .i64)), (cD (dI .i64)), (cD (dI .i64)), (cD (dI .i64))], eBox 15 [(cD (dI .i64)), (cD (dI .i64))]]
def u23_0_28 {β : Type} (g : St → β) : Int → Int → Int → Int → Int → Int → Int → Int → Int → Int → Int → Bool → Int → Int → Int → Int → Int → Int → Int → Int → Int → Int → Int → Int → Int → Int → Int → Int → Int → Int → Int → Int → Int → Int → Int → Int → Int → Int → Int → Int → Int → β := p23_0_28.unc g
def p23_0_29 : PT St := pS [sl 2 (aV false [(cD (dI .i64))]), sl 3 (aV false [(cD (dI .i64))]), sl 4 (aV false [(cPtr 4 0)]), sl 5 (aV false [(cPtr 5 0)]), sl 8 (aV false [(cPtr 8 0)]), sl 10 (aV false [(cPtr 10 0)]), sl 11 (aV false [(cD (dIc .i64 2))]), sl 12 (aV false [(cD (dI .i64))]), sl 13 (aV false [(cD (dI .i64))]), sl 17 (aV false [(cD (dIc .i64 2))]), sl 21 (aV true [(cD (dI .i64)), (cD (dI .i64)), (cD (dI .i64)), (cD (dI .i64)), (cD (dI .i64)), (cD (dI .i64))]), sl 22 (aV false [(cD (dIc .i64 3))])] [eBox 4 [(cD (dI .i64)), (cD (dI .i64)), (cD (dI .i64)), (cD (dI .i64)), (cD (dI .i64)), (cD (dI .i64)), (cD (dI .i64)), (cD (dI .i64)), (cD (dI .i64))], eBox 5 [(cD (dI .i64)), (cD (dI .i64)), (cD (dI .i64)), (cD (dI .i64)), (cD (dI .i64)), (cD (dI .i64))], eBox 8 [(cD (dI .i64)), (cD (dI .i64)), (cD (dI .i64)), (cD (dI .i64)), (cD (dI .i64)), (cD (dI .i64))], eBox 10 [(cD (dI .i64)), (cD (dI .i64)), (cD (dI .i64)), (cD (dI .i64)), (cD (dI .i64)), (cD (dI .i64))]]
def u23_0_29 {β : Type} (g : St → β) : Int → Int → Int → Int → Int → Int → Int → Int → Int → Int → Int → Int → Int → Int → Int → Int → Int → Int → Int → Int → Int → Int → Int → Int → Int → Int → Int → Int → Int → Int → Int → Int → Int → Int → Int → Int → Int → β := p23_0_29.unc g
def pr23_0_0 : PT (List RV) := pRs [pR true [rD (dI .i64), rD (dI .i64), rD (dI .i64), rD (dI .i64), rD (dI .i64), rD (dI .i64)], pR false [rD (dI .i64)]]
def ur23_0_0 {β : Type} (g : List RV → β) : Int → Int → Int → Int → Int → Int → Int → β := pr23_0_0.unc g
def E23_0g (vf57_0 : Tf57_0) (vf48_0 : Tf48_0) (vf49_0 : Tf49_0) (vf58_0 : Tf58_0) : EnvK := EnvK.of [⟨57, nt57, [⟨pa57_0, Fn57_0 vf57_0⟩]⟩, ⟨48, nt48, [⟨pa48_0, Fn48_0 vf48_0⟩]⟩, ⟨49, nt49, [⟨pa49_0, Fn49_0 vf49_0⟩]⟩, ⟨58, nt58, [⟨pa58_0, Fn58_0 vf58_0⟩]⟩] noSeq
noncomputable def E23_0 : EnvK := E23_0g f57_0 f48_0 f49_0 f58_0
theorem eo23_0 : E23_0.Ok Try.prog := EnvK.of_ok noSeq_ok ⟨⟨io57_0, trivial⟩, ⟨io48_0, trivial⟩, ⟨io49_0, trivial⟩, ⟨io58_0, trivial⟩, trivial⟩
noncomputable def c23_0_35g  : MCode := (.seq (.region r23_37 [] (tO [2, 3, 4, 5, 8, 10, 11, 12, 13, 15, 16, 17, 21, 22, 33])) (.cond (.tmp 33) (.region r23_39 [] (tO [2, 3, 4, 5, 8, 10, 11, 12, 13, 15, 16, 17, 21, 22])) .skip))
noncomputable def c23_0_35 : MCode := c23_0_35g 
theorem g23_0_35 : c23_0_35.Good Try.prog E23_0 sh23 := ⟨trivial, ⟨trivial, trivial⟩⟩
--CODE 35 0
abbrev TJ23_0_0 : Type 1 := (α : Type) → Int → (Option α) → (Bool → Option α) → Option α
def J23_0_0g  (α : Type) (x66 : Int) (k1 : Option α) (k2 : Bool → Option α) : Option α :=
 cK (decide (x66 < 0))
 (k1)
 (k2 (decide (x66 < 0)))
noncomputable def J23_0_0 (α : Type) (x66 : Int) (k1 : Option α) (k2 : Bool → Option α) : Option α := J23_0_0g  α x66 k1 k2
def F23_0_0 (v : TJ23_0_0) (α : Type) (K : Exit → St → Option α) : Int → Int → Int → Int → Int → Int → Int → Int → Int → Int → Int → Int → Int → Int → Int → Int → Int → Int → Int → Int → Int → Int → Int → Int → Int → Int → Int → Int → Int → Int → Int → Int → Int → Int → Int → Int → Int → Int → Int → Int → Option α := fun x62 x63 x64 x65 x66 x67 x68 x69 x70 x71 x72 x73 x74 x75 x76 x77 x78 x79 x80 x81 x82 x83 x84 x85 x86 x87 x88 x89 x90 x91 x92 x93 x94 x95 x96 x97 x98 x99 x100 x101 => v α x66 (u23_0_0 (K .normal) x62 x63 x64 x65 x66 x67 x68 x69 x70 x71 x72 x73 x74 x75 x76 x77 x78 x79 x80 x81 x82 x83 x84 x85 x86 x87 x88 x89 x90 x91 x92 x93 x94 x95 x96 x97 x98 x99 x101 x100) (fun (y1 : Bool) => u23_0_1 (K .normal) x62 x63 x64 x65 x66 x67 x68 x69 x70 x71 x72 y1 x73 x74 x75 x76 x77 x78 x79 x80 x81 x82 x83 x84 x85 x86 x87 x88 x89 x90 x91 x92 x93 x94 x95 x96 x97 x98 x99 x100 x101) 
theorem m23_0_0g (vf57_0 : Tf57_0) (vf48_0 : Tf48_0) (vf49_0 : Tf49_0) (vf58_0 : Tf58_0)  (α : Type) (K : Exit → St → Option α) : F23_0_0 (J23_0_0g ) α K = p23_0_0.unc fun σ => runM Try.prog (E23_0g vf57_0 vf48_0 vf49_0 vf58_0) sh23 (c23_0_35g ) K σ := by kernel_rfl
theorem m23_0_0 : ∀ (α : Type) (K : Exit → St → Option α), F23_0_0 J23_0_0 α K = p23_0_0.unc fun σ => runM Try.prog E23_0 sh23 c23_0_35 K σ := m23_0_0g f57_0 f48_0 f49_0 f58_0
--CODE 35 0
abbrev TJ23_0_2 : Type 1 := (α : Type) → Int → (Option α) → (Bool → Option α) → Option α
def J23_0_2g  (α : Type) (x150 : Int) (k1 : Option α) (k2 : Bool → Option α) : Option α :=
 cK (decide (x150 < 0))
 (k1)
 (k2 (decide (x150 < 0)))
noncomputable def J23_0_2 (α : Type) (x150 : Int) (k1 : Option α) (k2 : Bool → Option α) : Option α := J23_0_2g  α x150 k1 k2
def F23_0_2 (v : TJ23_0_2) (α : Type) (K : Exit → St → Option α) : Int → Int → Int → Int → Int → Int → Int → Int → Int → Int → Int → Int → Int → Int → Int → Int → Int → Int → Int → Int → Int → Int → Int → Int → Int → Int → Int → Int → Int → Int → Int → Int → Int → Int → Int → Int → Int → Int → Int → Int → Option α := fun x146 x147 x148 x149 x150 x151 x152 x153 x154 x155 x156 x157 x158 x159 x160 x161 x162 x163 x164 x165 x166 x167 x168 x169 x170 x171 x172 x173 x174 x175 x176 x177 x178 x179 x180 x181 x182 x183 x184 x185 => v α x150 (u23_0_4 (K .normal) x146 x147 x148 x149 x150 x151 x152 x153 x154 x155 x156 x157 x158 x159 x160 x161 x162 x163 x164 x165 x166 x167 x168 x169 x170 x171 x172 x173 x174 x175 x176 x177 x178 x179 x180 x181 x182 x183 x185 x184) (fun (y1 : Bool) => u23_0_5 (K .normal) x146 x147 x148 x149 x150 x151 x152 x153 x154 x155 x156 y1 x157 x158 x159 x160 x161 x162 x163 x164 x165 x166 x167 x168 x169 x170 x171 x172 x173 x174 x175 x176 x177 x178 x179 x180 x181 x182 x183 x184 x185) 
theorem m23_0_2g (vf57_0 : Tf57_0) (vf48_0 : Tf48_0) (vf49_0 : Tf49_0) (vf58_0 : Tf58_0)  (α : Type) (K : Exit → St → Option α) : F23_0_2 (J23_0_2g ) α K = p23_0_4.unc fun σ => runM Try.prog (E23_0g vf57_0 vf48_0 vf49_0 vf58_0) sh23 (c23_0_35g ) K σ := by kernel_rfl
theorem m23_0_2 : ∀ (α : Type) (K : Exit → St → Option α), F23_0_2 J23_0_2 α K = p23_0_4.unc fun σ => runM Try.prog E23_0 sh23 c23_0_35 K σ := m23_0_2g f57_0 f48_0 f49_0 f58_0
--CODE 35 0
abbrev TJ23_0_4 : Type 1 := (α : Type) → Int → (Option α) → (Bool → Option α) → Option α
def J23_0_4g  (α : Type) (x234 : Int) (k1 : Option α) (k2 : Bool → Option α) : Option α :=
 cK (decide (x234 < 0))
 (k1)
 (k2 (decide (x234 < 0)))
noncomputable def J23_0_4 (α : Type) (x234 : Int) (k1 : Option α) (k2 : Bool → Option α) : Option α := J23_0_4g  α x234 k1 k2
def F23_0_4 (v : TJ23_0_4) (α : Type) (K : Exit → St → Option α) : Int → Int → Int → Int → Int → Int → Int → Int → Int → Int → Int → Int → Int → Int → Int → Int → Int → Int → Int → Int → Int → Int → Int → Int → Int → Int → Int → Int → Int → Int → Int → Int → Int → Int → Int → Int → Int → Int → Int → Int → Option α := fun x230 x231 x232 x233 x234 x235 x236 x237 x238 x239 x240 x241 x242 x243 x244 x245 x246 x247 x248 x249 x250 x251 x252 x253 x254 x255 x256 x257 x258 x259 x260 x261 x262 x263 x264 x265 x266 x267 x268 x269 => v α x234 (u23_0_7 (K .normal) x230 x231 x232 x233 x234 x235 x236 x237 x238 x239 x240 x241 x242 x243 x244 x245 x246 x247 x248 x249 x250 x251 x252 x253 x254 x255 x256 x257 x258 x259 x260 x261 x262 x263 x264 x265 x266 x267 x269 x268) (fun (y1 : Bool) => u23_0_8 (K .normal) x230 x231 x232 x233 x234 x235 x236 x237 x238 x239 x240 y1 x241 x242 x243 x244 x245 x246 x247 x248 x249 x250 x251 x252 x253 x254 x255 x256 x257 x258 x259 x260 x261 x262 x263 x264 x265 x266 x267 x268 x269) 
theorem m23_0_4g (vf57_0 : Tf57_0) (vf48_0 : Tf48_0) (vf49_0 : Tf49_0) (vf58_0 : Tf58_0)  (α : Type) (K : Exit → St → Option α) : F23_0_4 (J23_0_4g ) α K = p23_0_7.unc fun σ => runM Try.prog (E23_0g vf57_0 vf48_0 vf49_0 vf58_0) sh23 (c23_0_35g ) K σ := by kernel_rfl
theorem m23_0_4 : ∀ (α : Type) (K : Exit → St → Option α), F23_0_4 J23_0_4 α K = p23_0_7.unc fun σ => runM Try.prog E23_0 sh23 c23_0_35 K σ := m23_0_4g f57_0 f48_0 f49_0 f58_0
--CODE 35 0
abbrev TJ23_0_6 : Type 1 := (α : Type) → Int → (Option α) → (Bool → Option α) → Option α
def J23_0_6g  (α : Type) (x328 : Int) (k1 : Option α) (k2 : Bool → Option α) : Option α :=
 cK (decide (x328 < 0))
 (k1)
 (k2 (decide (x328 < 0)))
noncomputable def J23_0_6 (α : Type) (x328 : Int) (k1 : Option α) (k2 : Bool → Option α) : Option α := J23_0_6g  α x328 k1 k2
def F23_0_6 (v : TJ23_0_6) (α : Type) (K : Exit → St → Option α) : Int → Int → Int → Int → Int → Int → Int → Int → Int → Int → Int → Int → Int → Int → Int → Int → Int → Int → Int → Int → Int → Int → Int → Int → Int → Int → Int → Int → Int → Int → Int → Int → Int → Int → Int → Int → Int → Int → Int → Int → Option α := fun x324 x325 x326 x327 x328 x329 x330 x331 x332 x333 x334 x335 x336 x337 x338 x339 x340 x341 x342 x343 x344 x345 x346 x347 x348 x349 x350 x351 x352 x353 x354 x355 x356 x357 x358 x359 x360 x361 x362 x363 => v α x328 (u23_0_10 (K .normal) x324 x325 x326 x327 x328 x329 x330 x331 x332 x333 x334 x335 x336 x337 x338 x339 x340 x341 x342 x343 x344 x345 x346 x347 x348 x349 x350 x351 x352 x353 x354 x355 x356 x357 x358 x359 x360 x361 x363 x362) (fun (y1 : Bool) => u23_0_11 (K .normal) x324 x325 x326 x327 x328 x329 x330 x331 x332 x333 x334 y1 x335 x336 x337 x338 x339 x340 x341 x342 x343 x344 x345 x346 x347 x348 x349 x350 x351 x352 x353 x354 x355 x356 x357 x358 x359 x360 x361 x362 x363) 
theorem m23_0_6g (vf57_0 : Tf57_0) (vf48_0 : Tf48_0) (vf49_0 : Tf49_0) (vf58_0 : Tf58_0)  (α : Type) (K : Exit → St → Option α) : F23_0_6 (J23_0_6g ) α K = p23_0_10.unc fun σ => runM Try.prog (E23_0g vf57_0 vf48_0 vf49_0 vf58_0) sh23 (c23_0_35g ) K σ := by kernel_rfl
theorem m23_0_6 : ∀ (α : Type) (K : Exit → St → Option α), F23_0_6 J23_0_6 α K = p23_0_10.unc fun σ => runM Try.prog E23_0 sh23 c23_0_35 K σ := m23_0_6g f57_0 f48_0 f49_0 f58_0
--CODE 35 0
abbrev TJ23_0_8 : Type 1 := (α : Type) → Int → (Option α) → (Bool → Option α) → Option α
def J23_0_8g  (α : Type) (x412 : Int) (k1 : Option α) (k2 : Bool → Option α) : Option α :=
 cK (decide (x412 < 0))
 (k1)
 (k2 (decide (x412 < 0)))
noncomputable def J23_0_8 (α : Type) (x412 : Int) (k1 : Option α) (k2 : Bool → Option α) : Option α := J23_0_8g  α x412 k1 k2
def F23_0_8 (v : TJ23_0_8) (α : Type) (K : Exit → St → Option α) : Int → Int → Int → Int → Int → Int → Int → Int → Int → Int → Int → Int → Int → Int → Int → Int → Int → Int → Int → Int → Int → Int → Int → Int → Int → Int → Int → Int → Int → Int → Int → Int → Int → Int → Int → Int → Int → Int → Int → Int → Option α := fun x408 x409 x410 x411 x412 x413 x414 x415 x416 x417 x418 x419 x420 x421 x422 x423 x424 x425 x426 x427 x428 x429 x430 x431 x432 x433 x434 x435 x436 x437 x438 x439 x440 x441 x442 x443 x444 x445 x446 x447 => v α x412 (u23_0_14 (K .normal) x408 x409 x410 x411 x412 x413 x414 x415 x416 x417 x418 x419 x420 x421 x422 x423 x424 x425 x426 x427 x428 x429 x430 x431 x432 x433 x434 x435 x436 x437 x438 x439 x440 x441 x442 x443 x444 x445 x447 x446) (fun (y1 : Bool) => u23_0_15 (K .normal) x408 x409 x410 x411 x412 x413 x414 x415 x416 x417 x418 y1 x419 x420 x421 x422 x423 x424 x425 x426 x427 x428 x429 x430 x431 x432 x433 x434 x435 x436 x437 x438 x439 x440 x441 x442 x443 x444 x445 x446 x447) 
theorem m23_0_8g (vf57_0 : Tf57_0) (vf48_0 : Tf48_0) (vf49_0 : Tf49_0) (vf58_0 : Tf58_0)  (α : Type) (K : Exit → St → Option α) : F23_0_8 (J23_0_8g ) α K = p23_0_14.unc fun σ => runM Try.prog (E23_0g vf57_0 vf48_0 vf49_0 vf58_0) sh23 (c23_0_35g ) K σ := by kernel_rfl
theorem m23_0_8 : ∀ (α : Type) (K : Exit → St → Option α), F23_0_8 J23_0_8 α K = p23_0_14.unc fun σ => runM Try.prog E23_0 sh23 c23_0_35 K σ := m23_0_8g f57_0 f48_0 f49_0 f58_0
--CODE 35 0
abbrev TJ23_0_10 : Type 1 := (α : Type) → Int → (Option α) → (Bool → Option α) → Option α
def J23_0_10g  (α : Type) (x496 : Int) (k1 : Option α) (k2 : Bool → Option α) : Option α :=
 cK (decide (x496 < 0))
 (k1)
 (k2 (decide (x496 < 0)))
noncomputable def J23_0_10 (α : Type) (x496 : Int) (k1 : Option α) (k2 : Bool → Option α) : Option α := J23_0_10g  α x496 k1 k2
def F23_0_10 (v : TJ23_0_10) (α : Type) (K : Exit → St → Option α) : Int → Int → Int → Int → Int → Int → Int → Int → Int → Int → Int → Int → Int → Int → Int → Int → Int → Int → Int → Int → Int → Int → Int → Int → Int → Int → Int → Int → Int → Int → Int → Int → Int → Int → Int → Int → Int → Int → Int → Int → Option α := fun x492 x493 x494 x495 x496 x497 x498 x499 x500 x501 x502 x503 x504 x505 x506 x507 x508 x509 x510 x511 x512 x513 x514 x515 x516 x517 x518 x519 x520 x521 x522 x523 x524 x525 x526 x527 x528 x529 x530 x531 => v α x496 (u23_0_17 (K .normal) x492 x493 x494 x495 x496 x497 x498 x499 x500 x501 x502 x503 x504 x505 x506 x507 x508 x509 x510 x511 x512 x513 x514 x515 x516 x517 x518 x519 x520 x521 x522 x523 x524 x525 x526 x527 x528 x529 x531 x530) (fun (y1 : Bool) => u23_0_18 (K .normal) x492 x493 x494 x495 x496 x497 x498 x499 x500 x501 x502 y1 x503 x504 x505 x506 x507 x508 x509 x510 x511 x512 x513 x514 x515 x516 x517 x518 x519 x520 x521 x522 x523 x524 x525 x526 x527 x528 x529 x530 x531) 
theorem m23_0_10g (vf57_0 : Tf57_0) (vf48_0 : Tf48_0) (vf49_0 : Tf49_0) (vf58_0 : Tf58_0)  (α : Type) (K : Exit → St → Option α) : F23_0_10 (J23_0_10g ) α K = p23_0_17.unc fun σ => runM Try.prog (E23_0g vf57_0 vf48_0 vf49_0 vf58_0) sh23 (c23_0_35g ) K σ := by kernel_rfl
theorem m23_0_10 : ∀ (α : Type) (K : Exit → St → Option α), F23_0_10 J23_0_10 α K = p23_0_17.unc fun σ => runM Try.prog E23_0 sh23 c23_0_35 K σ := m23_0_10g f57_0 f48_0 f49_0 f58_0
--CODE 35 0
abbrev TJ23_0_12 : Type 1 := (α : Type) → Int → (Option α) → (Bool → Option α) → Option α
def J23_0_12g  (α : Type) (x590 : Int) (k1 : Option α) (k2 : Bool → Option α) : Option α :=
 cK (decide (x590 < 0))
 (k1)
 (k2 (decide (x590 < 0)))
noncomputable def J23_0_12 (α : Type) (x590 : Int) (k1 : Option α) (k2 : Bool → Option α) : Option α := J23_0_12g  α x590 k1 k2
def F23_0_12 (v : TJ23_0_12) (α : Type) (K : Exit → St → Option α) : Int → Int → Int → Int → Int → Int → Int → Int → Int → Int → Int → Int → Int → Int → Int → Int → Int → Int → Int → Int → Int → Int → Int → Int → Int → Int → Int → Int → Int → Int → Int → Int → Int → Int → Int → Int → Int → Int → Int → Int → Option α := fun x586 x587 x588 x589 x590 x591 x592 x593 x594 x595 x596 x597 x598 x599 x600 x601 x602 x603 x604 x605 x606 x607 x608 x609 x610 x611 x612 x613 x614 x615 x616 x617 x618 x619 x620 x621 x622 x623 x624 x625 => v α x590 (u23_0_20 (K .normal) x586 x587 x588 x589 x590 x591 x592 x593 x594 x595 x596 x597 x598 x599 x600 x601 x602 x603 x604 x605 x606 x607 x608 x609 x610 x611 x612 x613 x614 x615 x616 x617 x618 x619 x620 x621 x622 x623 x625 x624) (fun (y1 : Bool) => u23_0_21 (K .normal) x586 x587 x588 x589 x590 x591 x592 x593 x594 x595 x596 y1 x597 x598 x599 x600 x601 x602 x603 x604 x605 x606 x607 x608 x609 x610 x611 x612 x613 x614 x615 x616 x617 x618 x619 x620 x621 x622 x623 x624 x625) 
theorem m23_0_12g (vf57_0 : Tf57_0) (vf48_0 : Tf48_0) (vf49_0 : Tf49_0) (vf58_0 : Tf58_0)  (α : Type) (K : Exit → St → Option α) : F23_0_12 (J23_0_12g ) α K = p23_0_20.unc fun σ => runM Try.prog (E23_0g vf57_0 vf48_0 vf49_0 vf58_0) sh23 (c23_0_35g ) K σ := by kernel_rfl
theorem m23_0_12 : ∀ (α : Type) (K : Exit → St → Option α), F23_0_12 J23_0_12 α K = p23_0_20.unc fun σ => runM Try.prog E23_0 sh23 c23_0_35 K σ := m23_0_12g f57_0 f48_0 f49_0 f58_0
--CODE 35 0
abbrev TJ23_0_14 : Type 1 := (α : Type) → Int → (Option α) → (Bool → Option α) → Option α
def J23_0_14g  (α : Type) (x674 : Int) (k1 : Option α) (k2 : Bool → Option α) : Option α :=
 cK (decide (x674 < 0))
 (k1)
 (k2 (decide (x674 < 0)))
noncomputable def J23_0_14 (α : Type) (x674 : Int) (k1 : Option α) (k2 : Bool → Option α) : Option α := J23_0_14g  α x674 k1 k2
def F23_0_14 (v : TJ23_0_14) (α : Type) (K : Exit → St → Option α) : Int → Int → Int → Int → Int → Int → Int → Int → Int → Int → Int → Int → Int → Int → Int → Int → Int → Int → Int → Int → Int → Int → Int → Int → Int → Int → Int → Int → Int → Int → Int → Int → Int → Int → Int → Int → Int → Int → Int → Int → Option α := fun x670 x671 x672 x673 x674 x675 x676 x677 x678 x679 x680 x681 x682 x683 x684 x685 x686 x687 x688 x689 x690 x691 x692 x693 x694 x695 x696 x697 x698 x699 x700 x701 x702 x703 x704 x705 x706 x707 x708 x709 => v α x674 (u23_0_24 (K .normal) x670 x671 x672 x673 x674 x675 x676 x677 x678 x679 x680 x681 x682 x683 x684 x685 x686 x687 x688 x689 x690 x691 x692 x693 x694 x695 x696 x697 x698 x699 x700 x701 x702 x703 x704 x705 x706 x707 x709 x708) (fun (y1 : Bool) => u23_0_25 (K .normal) x670 x671 x672 x673 x674 x675 x676 x677 x678 x679 x680 y1 x681 x682 x683 x684 x685 x686 x687 x688 x689 x690 x691 x692 x693 x694 x695 x696 x697 x698 x699 x700 x701 x702 x703 x704 x705 x706 x707 x708 x709) 
theorem m23_0_14g (vf57_0 : Tf57_0) (vf48_0 : Tf48_0) (vf49_0 : Tf49_0) (vf58_0 : Tf58_0)  (α : Type) (K : Exit → St → Option α) : F23_0_14 (J23_0_14g ) α K = p23_0_24.unc fun σ => runM Try.prog (E23_0g vf57_0 vf48_0 vf49_0 vf58_0) sh23 (c23_0_35g ) K σ := by kernel_rfl
theorem m23_0_14 : ∀ (α : Type) (K : Exit → St → Option α), F23_0_14 J23_0_14 α K = p23_0_24.unc fun σ => runM Try.prog E23_0 sh23 c23_0_35 K σ := m23_0_14g f57_0 f48_0 f49_0 f58_0
--CODE 35 0
abbrev TJ23_0_16 : Type 1 := (α : Type) → Int → (Option α) → (Bool → Option α) → Option α
def J23_0_16g  (α : Type) (x758 : Int) (k1 : Option α) (k2 : Bool → Option α) : Option α :=
 cK (decide (x758 < 0))
 (k1)
 (k2 (decide (x758 < 0)))
noncomputable def J23_0_16 (α : Type) (x758 : Int) (k1 : Option α) (k2 : Bool → Option α) : Option α := J23_0_16g  α x758 k1 k2
def F23_0_16 (v : TJ23_0_16) (α : Type) (K : Exit → St → Option α) : Int → Int → Int → Int → Int → Int → Int → Int → Int → Int → Int → Int → Int → Int → Int → Int → Int → Int → Int → Int → Int → Int → Int → Int → Int → Int → Int → Int → Int → Int → Int → Int → Int → Int → Int → Int → Int → Int → Int → Int → Option α := fun x754 x755 x756 x757 x758 x759 x760 x761 x762 x763 x764 x765 x766 x767 x768 x769 x770 x771 x772 x773 x774 x775 x776 x777 x778 x779 x780 x781 x782 x783 x784 x785 x786 x787 x788 x789 x790 x791 x792 x793 => v α x758 (u23_0_27 (K .normal) x754 x755 x756 x757 x758 x759 x760 x761 x762 x763 x764 x765 x766 x767 x768 x769 x770 x771 x772 x773 x774 x775 x776 x777 x778 x779 x780 x781 x782 x783 x784 x785 x786 x787 x788 x789 x790 x791 x793 x792) (fun (y1 : Bool) => u23_0_28 (K .normal) x754 x755 x756 x757 x758 x759 x760 x761 x762 x763 x764 y1 x765 x766 x767 x768 x769 x770 x771 x772 x773 x774 x775 x776 x777 x778 x779 x780 x781 x782 x783 x784 x785 x786 x787 x788 x789 x790 x791 x792 x793) 
theorem m23_0_16g (vf57_0 : Tf57_0) (vf48_0 : Tf48_0) (vf49_0 : Tf49_0) (vf58_0 : Tf58_0)  (α : Type) (K : Exit → St → Option α) : F23_0_16 (J23_0_16g ) α K = p23_0_27.unc fun σ => runM Try.prog (E23_0g vf57_0 vf48_0 vf49_0 vf58_0) sh23 (c23_0_35g ) K σ := by kernel_rfl
theorem m23_0_16 : ∀ (α : Type) (K : Exit → St → Option α), F23_0_16 J23_0_16 α K = p23_0_27.unc fun σ => runM Try.prog E23_0 sh23 c23_0_35 K σ := m23_0_16g f57_0 f48_0 f49_0 f58_0
noncomputable def c23_0_24g (vJ23_0_0 : TJ23_0_0) (vJ23_0_2 : TJ23_0_2) (vJ23_0_4 : TJ23_0_4) (vJ23_0_6 : TJ23_0_6) (vJ23_0_8 : TJ23_0_8) (vJ23_0_10 : TJ23_0_10) (vJ23_0_12 : TJ23_0_12) (vJ23_0_14 : TJ23_0_14) (vJ23_0_16 : TJ23_0_16) : MCode := (.seq (.region r23_26 [] (tO [2, 3, 4, 5, 8, 10, 11, 12, 13, 17, 21, 22, 23])) (.seq (.cond (.tmp 23) .skip (.exit 2)) (.seq (.block 3 (.seq (.region r23_32 [] (tO [2, 3, 4, 5, 8, 10, 11, 12, 13, 14, 15, 17, 21, 22])) (.seq (.region r23_34 [] (tO [2, 3, 4, 5, 8, 10, 11, 12, 13, 15, 16, 17, 21, 22])) (.seq (.mark [⟨p23_0_0, F23_0_0 vJ23_0_0⟩, ⟨p23_0_4, F23_0_2 vJ23_0_2⟩, ⟨p23_0_7, F23_0_4 vJ23_0_4⟩, ⟨p23_0_10, F23_0_6 vJ23_0_6⟩, ⟨p23_0_14, F23_0_8 vJ23_0_8⟩, ⟨p23_0_17, F23_0_10 vJ23_0_10⟩, ⟨p23_0_20, F23_0_12 vJ23_0_12⟩, ⟨p23_0_24, F23_0_14 vJ23_0_14⟩, ⟨p23_0_27, F23_0_16 vJ23_0_16⟩] c23_0_35) (.region r23_40 [] (tO [2, 3, 4, 5, 8, 10, 11, 12, 13, 17, 21, 22])))))) (.region r23_41 [] (tO [2, 3, 4, 5, 8, 10, 11, 12, 13, 17, 21, 22])))))
noncomputable def c23_0_24 : MCode := c23_0_24g J23_0_0 J23_0_2 J23_0_4 J23_0_6 J23_0_8 J23_0_10 J23_0_12 J23_0_14 J23_0_16
theorem g23_0_24 : c23_0_24.Good Try.prog E23_0 sh23 := ⟨trivial, ⟨⟨trivial, trivial⟩, ⟨⟨trivial, ⟨trivial, ⟨⟨g23_0_35, m23_0_0, m23_0_2, m23_0_4, m23_0_6, m23_0_8, m23_0_10, m23_0_12, m23_0_14, m23_0_16, trivial⟩, trivial⟩⟩⟩, trivial⟩⟩⟩
--CODE 24 0
abbrev TJ23_0_1 : Type 1 := (α : Type) → Int → Int → Int → Int → Int → (Int → Int → Option α) → Option α
def J23_0_1g (vJ23_0_0 : TJ23_0_0) (α : Type) (x26 x27 x28 x29 x34 : Int) (k1 : Int → Int → Option α) : Option α :=
 vJ23_0_0 α x34
 (k1 (w64 (x26 + (w64 (x34 * x29)))) (w64 (x27 + (w64 (x34 * x28)))))
 (fun x103 => k1 (w64 (x26 + (w64 (x34 * x28)))) (w64 (x27 + (w64 (x34 * x29)))))
noncomputable def J23_0_1 (α : Type) (x26 x27 x28 x29 x34 : Int) (k1 : Int → Int → Option α) : Option α := J23_0_1g J23_0_0 α x26 x27 x28 x29 x34 k1
def F23_0_1 (v : TJ23_0_1) (α : Type) (K : Exit → St → Option α) : Int → Int → Int → Int → Int → Int → Int → Int → Int → Int → Int → Int → Int → Int → Int → Int → Int → Int → Int → Int → Int → Int → Int → Int → Int → Int → Int → Int → Int → Int → Int → Int → Int → Int → Int → Int → Int → Option α := fun x24 x25 x26 x27 x28 x29 x30 x31 x32 x33 x34 x35 x36 x37 x38 x39 x40 x41 x42 x43 x44 x45 x46 x47 x48 x49 x50 x51 x52 x53 x54 x55 x56 x57 x58 x59 x60 => v α x26 x27 x28 x29 x34 (fun (y1 : Int) (y2 : Int) => u23_0_3 (K .normal) x24 x25 y1 y2 x28 x29 x30 x31 x32 x33 x34 x35 x36 x37 x38 x39 x40 x41 x42 x43 x44 x45 x46 x47 x48 x49 x50 x51 x52 x53 x54 x55 x56 x57 x58 x59 x60) 
theorem m23_0_1g (vf57_0 : Tf57_0) (vf48_0 : Tf48_0) (vf49_0 : Tf49_0) (vf58_0 : Tf58_0) (vJ23_0_0 : TJ23_0_0) (vJ23_0_2 : TJ23_0_2) (vJ23_0_4 : TJ23_0_4) (vJ23_0_6 : TJ23_0_6) (vJ23_0_8 : TJ23_0_8) (vJ23_0_10 : TJ23_0_10) (vJ23_0_12 : TJ23_0_12) (vJ23_0_14 : TJ23_0_14) (vJ23_0_16 : TJ23_0_16) (α : Type) (K : Exit → St → Option α) : F23_0_1 (J23_0_1g vJ23_0_0) α K = p23_0_2.unc fun σ => runM Try.prog (E23_0g vf57_0 vf48_0 vf49_0 vf58_0) sh23 (c23_0_24g vJ23_0_0 vJ23_0_2 vJ23_0_4 vJ23_0_6 vJ23_0_8 vJ23_0_10 vJ23_0_12 vJ23_0_14 vJ23_0_16) K σ := by kernel_rfl
theorem m23_0_1 : ∀ (α : Type) (K : Exit → St → Option α), F23_0_1 J23_0_1 α K = p23_0_2.unc fun σ => runM Try.prog E23_0 sh23 c23_0_24 K σ := m23_0_1g f57_0 f48_0 f49_0 f58_0 J23_0_0 J23_0_2 J23_0_4 J23_0_6 J23_0_8 J23_0_10 J23_0_12 J23_0_14 J23_0_16
--CODE 24 0
abbrev TJ23_0_3 : Type 1 := (α : Type) → Int → Int → Int → Int → Int → (Int → Int → Option α) → Option α
def J23_0_3g (vJ23_0_2 : TJ23_0_2) (α : Type) (x110 x111 x114 x115 x119 : Int) (k1 : Int → Int → Option α) : Option α :=
 vJ23_0_2 α x119
 (k1 (w64 (x110 + (w64 (x119 * x115)))) (w64 (x111 + (w64 (x119 * x114)))))
 (fun x187 => k1 (w64 (x110 + (w64 (x119 * x114)))) (w64 (x111 + (w64 (x119 * x115)))))
noncomputable def J23_0_3 (α : Type) (x110 x111 x114 x115 x119 : Int) (k1 : Int → Int → Option α) : Option α := J23_0_3g J23_0_2 α x110 x111 x114 x115 x119 k1
def F23_0_3 (v : TJ23_0_3) (α : Type) (K : Exit → St → Option α) : Int → Int → Int → Int → Int → Int → Int → Int → Int → Int → Int → Int → Int → Int → Int → Int → Int → Int → Int → Int → Int → Int → Int → Int → Int → Int → Int → Int → Int → Int → Int → Int → Int → Int → Int → Int → Int → Option α := fun x108 x109 x110 x111 x112 x113 x114 x115 x116 x117 x118 x119 x120 x121 x122 x123 x124 x125 x126 x127 x128 x129 x130 x131 x132 x133 x134 x135 x136 x137 x138 x139 x140 x141 x142 x143 x144 => v α x110 x111 x114 x115 x119 (fun (y1 : Int) (y2 : Int) => u23_0_6 (K .normal) x108 x109 y1 y2 x112 x113 x114 x115 x116 x117 x118 x119 x120 x121 x122 x123 x124 x125 x126 x127 x128 x129 x130 x131 x132 x133 x134 x135 x136 x137 x138 x139 x140 x141 x142 x143 x144) 
theorem m23_0_3g (vf57_0 : Tf57_0) (vf48_0 : Tf48_0) (vf49_0 : Tf49_0) (vf58_0 : Tf58_0) (vJ23_0_0 : TJ23_0_0) (vJ23_0_2 : TJ23_0_2) (vJ23_0_4 : TJ23_0_4) (vJ23_0_6 : TJ23_0_6) (vJ23_0_8 : TJ23_0_8) (vJ23_0_10 : TJ23_0_10) (vJ23_0_12 : TJ23_0_12) (vJ23_0_14 : TJ23_0_14) (vJ23_0_16 : TJ23_0_16) (α : Type) (K : Exit → St → Option α) : F23_0_3 (J23_0_3g vJ23_0_2) α K = p23_0_3.unc fun σ => runM Try.prog (E23_0g vf57_0 vf48_0 vf49_0 vf58_0) sh23 (c23_0_24g vJ23_0_0 vJ23_0_2 vJ23_0_4 vJ23_0_6 vJ23_0_8 vJ23_0_10 vJ23_0_12 vJ23_0_14 vJ23_0_16) K σ := by kernel_rfl
theorem m23_0_3 : ∀ (α : Type) (K : Exit → St → Option α), F23_0_3 J23_0_3 α K = p23_0_3.unc fun σ => runM Try.prog E23_0 sh23 c23_0_24 K σ := m23_0_3g f57_0 f48_0 f49_0 f58_0 J23_0_0 J23_0_2 J23_0_4 J23_0_6 J23_0_8 J23_0_10 J23_0_12 J23_0_14 J23_0_16
--CODE 24 0
abbrev TJ23_0_5 : Type 1 := (α : Type) → Int → Int → Int → Int → Int → (Int → Int → Option α) → Option α
def J23_0_5g (vJ23_0_4 : TJ23_0_4) (α : Type) (x194 x195 x200 x201 x204 : Int) (k1 : Int → Int → Option α) : Option α :=
 vJ23_0_4 α x204
 (k1 (w64 (x194 + (w64 (x204 * x201)))) (w64 (x195 + (w64 (x204 * x200)))))
 (fun x271 => k1 (w64 (x194 + (w64 (x204 * x200)))) (w64 (x195 + (w64 (x204 * x201)))))
noncomputable def J23_0_5 (α : Type) (x194 x195 x200 x201 x204 : Int) (k1 : Int → Int → Option α) : Option α := J23_0_5g J23_0_4 α x194 x195 x200 x201 x204 k1
def F23_0_5 (v : TJ23_0_5) (α : Type) (K : Exit → St → Option α) : Int → Int → Int → Int → Int → Int → Int → Int → Int → Int → Int → Int → Int → Int → Int → Int → Int → Int → Int → Int → Int → Int → Int → Int → Int → Int → Int → Int → Int → Int → Int → Int → Int → Int → Int → Int → Int → Option α := fun x192 x193 x194 x195 x196 x197 x198 x199 x200 x201 x202 x203 x204 x205 x206 x207 x208 x209 x210 x211 x212 x213 x214 x215 x216 x217 x218 x219 x220 x221 x222 x223 x224 x225 x226 x227 x228 => v α x194 x195 x200 x201 x204 (fun (y1 : Int) (y2 : Int) => u23_0_9 (K .normal) x192 x193 y1 y2 x196 x197 x198 x199 x200 x201 x202 x203 x204 x205 x206 x207 x208 x209 x210 x211 x212 x213 x214 x215 x216 x217 x218 x219 x220 x221 x222 x223 x224 x225 x226 x227 x228) 
theorem m23_0_5g (vf57_0 : Tf57_0) (vf48_0 : Tf48_0) (vf49_0 : Tf49_0) (vf58_0 : Tf58_0) (vJ23_0_0 : TJ23_0_0) (vJ23_0_2 : TJ23_0_2) (vJ23_0_4 : TJ23_0_4) (vJ23_0_6 : TJ23_0_6) (vJ23_0_8 : TJ23_0_8) (vJ23_0_10 : TJ23_0_10) (vJ23_0_12 : TJ23_0_12) (vJ23_0_14 : TJ23_0_14) (vJ23_0_16 : TJ23_0_16) (α : Type) (K : Exit → St → Option α) : F23_0_5 (J23_0_5g vJ23_0_4) α K = p23_0_6.unc fun σ => runM Try.prog (E23_0g vf57_0 vf48_0 vf49_0 vf58_0) sh23 (c23_0_24g vJ23_0_0 vJ23_0_2 vJ23_0_4 vJ23_0_6 vJ23_0_8 vJ23_0_10 vJ23_0_12 vJ23_0_14 vJ23_0_16) K σ := by kernel_rfl
theorem m23_0_5 : ∀ (α : Type) (K : Exit → St → Option α), F23_0_5 J23_0_5 α K = p23_0_6.unc fun σ => runM Try.prog E23_0 sh23 c23_0_24 K σ := m23_0_5g f57_0 f48_0 f49_0 f58_0 J23_0_0 J23_0_2 J23_0_4 J23_0_6 J23_0_8 J23_0_10 J23_0_12 J23_0_14 J23_0_16
--CODE 24 0
abbrev TJ23_0_7 : Type 1 := (α : Type) → Int → Int → Int → Int → Int → (Int → Int → Option α) → Option α
def J23_0_7g (vJ23_0_6 : TJ23_0_6) (α : Type) (x288 x289 x290 x291 x299 : Int) (k1 : Int → Int → Option α) : Option α :=
 vJ23_0_6 α x299
 (k1 (w64 (x288 + (w64 (x299 * x291)))) (w64 (x289 + (w64 (x299 * x290)))))
 (fun x365 => k1 (w64 (x288 + (w64 (x299 * x290)))) (w64 (x289 + (w64 (x299 * x291)))))
noncomputable def J23_0_7 (α : Type) (x288 x289 x290 x291 x299 : Int) (k1 : Int → Int → Option α) : Option α := J23_0_7g J23_0_6 α x288 x289 x290 x291 x299 k1
def F23_0_7 (v : TJ23_0_7) (α : Type) (K : Exit → St → Option α) : Int → Int → Int → Int → Int → Int → Int → Int → Int → Int → Int → Int → Int → Int → Int → Int → Int → Int → Int → Int → Int → Int → Int → Int → Int → Int → Int → Int → Int → Int → Int → Int → Int → Int → Int → Int → Int → Option α := fun x286 x287 x288 x289 x290 x291 x292 x293 x294 x295 x296 x297 x298 x299 x300 x301 x302 x303 x304 x305 x306 x307 x308 x309 x310 x311 x312 x313 x314 x315 x316 x317 x318 x319 x320 x321 x322 => v α x288 x289 x290 x291 x299 (fun (y1 : Int) (y2 : Int) => u23_0_13 (K .normal) x286 x287 y1 y2 x290 x291 x292 x293 x294 x295 x296 x297 x298 x299 x300 x301 x302 x303 x304 x305 x306 x307 x308 x309 x310 x311 x312 x313 x314 x315 x316 x317 x318 x319 x320 x321 x322) 
theorem m23_0_7g (vf57_0 : Tf57_0) (vf48_0 : Tf48_0) (vf49_0 : Tf49_0) (vf58_0 : Tf58_0) (vJ23_0_0 : TJ23_0_0) (vJ23_0_2 : TJ23_0_2) (vJ23_0_4 : TJ23_0_4) (vJ23_0_6 : TJ23_0_6) (vJ23_0_8 : TJ23_0_8) (vJ23_0_10 : TJ23_0_10) (vJ23_0_12 : TJ23_0_12) (vJ23_0_14 : TJ23_0_14) (vJ23_0_16 : TJ23_0_16) (α : Type) (K : Exit → St → Option α) : F23_0_7 (J23_0_7g vJ23_0_6) α K = p23_0_12.unc fun σ => runM Try.prog (E23_0g vf57_0 vf48_0 vf49_0 vf58_0) sh23 (c23_0_24g vJ23_0_0 vJ23_0_2 vJ23_0_4 vJ23_0_6 vJ23_0_8 vJ23_0_10 vJ23_0_12 vJ23_0_14 vJ23_0_16) K σ := by kernel_rfl
theorem m23_0_7 : ∀ (α : Type) (K : Exit → St → Option α), F23_0_7 J23_0_7 α K = p23_0_12.unc fun σ => runM Try.prog E23_0 sh23 c23_0_24 K σ := m23_0_7g f57_0 f48_0 f49_0 f58_0 J23_0_0 J23_0_2 J23_0_4 J23_0_6 J23_0_8 J23_0_10 J23_0_12 J23_0_14 J23_0_16
--CODE 24 0
abbrev TJ23_0_9 : Type 1 := (α : Type) → Int → Int → Int → Int → Int → (Int → Int → Option α) → Option α
def J23_0_9g (vJ23_0_8 : TJ23_0_8) (α : Type) (x372 x373 x376 x377 x384 : Int) (k1 : Int → Int → Option α) : Option α :=
 vJ23_0_8 α x384
 (k1 (w64 (x372 + (w64 (x384 * x377)))) (w64 (x373 + (w64 (x384 * x376)))))
 (fun x449 => k1 (w64 (x372 + (w64 (x384 * x376)))) (w64 (x373 + (w64 (x384 * x377)))))
noncomputable def J23_0_9 (α : Type) (x372 x373 x376 x377 x384 : Int) (k1 : Int → Int → Option α) : Option α := J23_0_9g J23_0_8 α x372 x373 x376 x377 x384 k1
def F23_0_9 (v : TJ23_0_9) (α : Type) (K : Exit → St → Option α) : Int → Int → Int → Int → Int → Int → Int → Int → Int → Int → Int → Int → Int → Int → Int → Int → Int → Int → Int → Int → Int → Int → Int → Int → Int → Int → Int → Int → Int → Int → Int → Int → Int → Int → Int → Int → Int → Option α := fun x370 x371 x372 x373 x374 x375 x376 x377 x378 x379 x380 x381 x382 x383 x384 x385 x386 x387 x388 x389 x390 x391 x392 x393 x394 x395 x396 x397 x398 x399 x400 x401 x402 x403 x404 x405 x406 => v α x372 x373 x376 x377 x384 (fun (y1 : Int) (y2 : Int) => u23_0_16 (K .normal) x370 x371 y1 y2 x374 x375 x376 x377 x378 x379 x380 x381 x382 x383 x384 x385 x386 x387 x388 x389 x390 x391 x392 x393 x394 x395 x396 x397 x398 x399 x400 x401 x402 x403 x404 x405 x406) 
theorem m23_0_9g (vf57_0 : Tf57_0) (vf48_0 : Tf48_0) (vf49_0 : Tf49_0) (vf58_0 : Tf58_0) (vJ23_0_0 : TJ23_0_0) (vJ23_0_2 : TJ23_0_2) (vJ23_0_4 : TJ23_0_4) (vJ23_0_6 : TJ23_0_6) (vJ23_0_8 : TJ23_0_8) (vJ23_0_10 : TJ23_0_10) (vJ23_0_12 : TJ23_0_12) (vJ23_0_14 : TJ23_0_14) (vJ23_0_16 : TJ23_0_16) (α : Type) (K : Exit → St → Option α) : F23_0_9 (J23_0_9g vJ23_0_8) α K = p23_0_13.unc fun σ => runM Try.prog (E23_0g vf57_0 vf48_0 vf49_0 vf58_0) sh23 (c23_0_24g vJ23_0_0 vJ23_0_2 vJ23_0_4 vJ23_0_6 vJ23_0_8 vJ23_0_10 vJ23_0_12 vJ23_0_14 vJ23_0_16) K σ := by kernel_rfl
theorem m23_0_9 : ∀ (α : Type) (K : Exit → St → Option α), F23_0_9 J23_0_9 α K = p23_0_13.unc fun σ => runM Try.prog E23_0 sh23 c23_0_24 K σ := m23_0_9g f57_0 f48_0 f49_0 f58_0 J23_0_0 J23_0_2 J23_0_4 J23_0_6 J23_0_8 J23_0_10 J23_0_12 J23_0_14 J23_0_16
--CODE 24 0
abbrev TJ23_0_11 : Type 1 := (α : Type) → Int → Int → Int → Int → Int → (Int → Int → Option α) → Option α
def J23_0_11g (vJ23_0_10 : TJ23_0_10) (α : Type) (x456 x457 x462 x463 x469 : Int) (k1 : Int → Int → Option α) : Option α :=
 vJ23_0_10 α x469
 (k1 (w64 (x456 + (w64 (x469 * x463)))) (w64 (x457 + (w64 (x469 * x462)))))
 (fun x533 => k1 (w64 (x456 + (w64 (x469 * x462)))) (w64 (x457 + (w64 (x469 * x463)))))
noncomputable def J23_0_11 (α : Type) (x456 x457 x462 x463 x469 : Int) (k1 : Int → Int → Option α) : Option α := J23_0_11g J23_0_10 α x456 x457 x462 x463 x469 k1
def F23_0_11 (v : TJ23_0_11) (α : Type) (K : Exit → St → Option α) : Int → Int → Int → Int → Int → Int → Int → Int → Int → Int → Int → Int → Int → Int → Int → Int → Int → Int → Int → Int → Int → Int → Int → Int → Int → Int → Int → Int → Int → Int → Int → Int → Int → Int → Int → Int → Int → Option α := fun x454 x455 x456 x457 x458 x459 x460 x461 x462 x463 x464 x465 x466 x467 x468 x469 x470 x471 x472 x473 x474 x475 x476 x477 x478 x479 x480 x481 x482 x483 x484 x485 x486 x487 x488 x489 x490 => v α x456 x457 x462 x463 x469 (fun (y1 : Int) (y2 : Int) => u23_0_19 (K .normal) x454 x455 y1 y2 x458 x459 x460 x461 x462 x463 x464 x465 x466 x467 x468 x469 x470 x471 x472 x473 x474 x475 x476 x477 x478 x479 x480 x481 x482 x483 x484 x485 x486 x487 x488 x489 x490) 
theorem m23_0_11g (vf57_0 : Tf57_0) (vf48_0 : Tf48_0) (vf49_0 : Tf49_0) (vf58_0 : Tf58_0) (vJ23_0_0 : TJ23_0_0) (vJ23_0_2 : TJ23_0_2) (vJ23_0_4 : TJ23_0_4) (vJ23_0_6 : TJ23_0_6) (vJ23_0_8 : TJ23_0_8) (vJ23_0_10 : TJ23_0_10) (vJ23_0_12 : TJ23_0_12) (vJ23_0_14 : TJ23_0_14) (vJ23_0_16 : TJ23_0_16) (α : Type) (K : Exit → St → Option α) : F23_0_11 (J23_0_11g vJ23_0_10) α K = p23_0_16.unc fun σ => runM Try.prog (E23_0g vf57_0 vf48_0 vf49_0 vf58_0) sh23 (c23_0_24g vJ23_0_0 vJ23_0_2 vJ23_0_4 vJ23_0_6 vJ23_0_8 vJ23_0_10 vJ23_0_12 vJ23_0_14 vJ23_0_16) K σ := by kernel_rfl
theorem m23_0_11 : ∀ (α : Type) (K : Exit → St → Option α), F23_0_11 J23_0_11 α K = p23_0_16.unc fun σ => runM Try.prog E23_0 sh23 c23_0_24 K σ := m23_0_11g f57_0 f48_0 f49_0 f58_0 J23_0_0 J23_0_2 J23_0_4 J23_0_6 J23_0_8 J23_0_10 J23_0_12 J23_0_14 J23_0_16
--CODE 24 0
abbrev TJ23_0_13 : Type 1 := (α : Type) → Int → Int → Int → Int → Int → (Int → Int → Option α) → Option α
def J23_0_13g (vJ23_0_12 : TJ23_0_12) (α : Type) (x550 x551 x552 x553 x564 : Int) (k1 : Int → Int → Option α) : Option α :=
 vJ23_0_12 α x564
 (k1 (w64 (x550 + (w64 (x564 * x553)))) (w64 (x551 + (w64 (x564 * x552)))))
 (fun x627 => k1 (w64 (x550 + (w64 (x564 * x552)))) (w64 (x551 + (w64 (x564 * x553)))))
noncomputable def J23_0_13 (α : Type) (x550 x551 x552 x553 x564 : Int) (k1 : Int → Int → Option α) : Option α := J23_0_13g J23_0_12 α x550 x551 x552 x553 x564 k1
def F23_0_13 (v : TJ23_0_13) (α : Type) (K : Exit → St → Option α) : Int → Int → Int → Int → Int → Int → Int → Int → Int → Int → Int → Int → Int → Int → Int → Int → Int → Int → Int → Int → Int → Int → Int → Int → Int → Int → Int → Int → Int → Int → Int → Int → Int → Int → Int → Int → Int → Option α := fun x548 x549 x550 x551 x552 x553 x554 x555 x556 x557 x558 x559 x560 x561 x562 x563 x564 x565 x566 x567 x568 x569 x570 x571 x572 x573 x574 x575 x576 x577 x578 x579 x580 x581 x582 x583 x584 => v α x550 x551 x552 x553 x564 (fun (y1 : Int) (y2 : Int) => u23_0_23 (K .normal) x548 x549 y1 y2 x552 x553 x554 x555 x556 x557 x558 x559 x560 x561 x562 x563 x564 x565 x566 x567 x568 x569 x570 x571 x572 x573 x574 x575 x576 x577 x578 x579 x580 x581 x582 x583 x584) 
theorem m23_0_13g (vf57_0 : Tf57_0) (vf48_0 : Tf48_0) (vf49_0 : Tf49_0) (vf58_0 : Tf58_0) (vJ23_0_0 : TJ23_0_0) (vJ23_0_2 : TJ23_0_2) (vJ23_0_4 : TJ23_0_4) (vJ23_0_6 : TJ23_0_6) (vJ23_0_8 : TJ23_0_8) (vJ23_0_10 : TJ23_0_10) (vJ23_0_12 : TJ23_0_12) (vJ23_0_14 : TJ23_0_14) (vJ23_0_16 : TJ23_0_16) (α : Type) (K : Exit → St → Option α) : F23_0_13 (J23_0_13g vJ23_0_12) α K = p23_0_22.unc fun σ => runM Try.prog (E23_0g vf57_0 vf48_0 vf49_0 vf58_0) sh23 (c23_0_24g vJ23_0_0 vJ23_0_2 vJ23_0_4 vJ23_0_6 vJ23_0_8 vJ23_0_10 vJ23_0_12 vJ23_0_14 vJ23_0_16) K σ := by kernel_rfl
theorem m23_0_13 : ∀ (α : Type) (K : Exit → St → Option α), F23_0_13 J23_0_13 α K = p23_0_22.unc fun σ => runM Try.prog E23_0 sh23 c23_0_24 K σ := m23_0_13g f57_0 f48_0 f49_0 f58_0 J23_0_0 J23_0_2 J23_0_4 J23_0_6 J23_0_8 J23_0_10 J23_0_12 J23_0_14 J23_0_16
--CODE 24 0
abbrev TJ23_0_15 : Type 1 := (α : Type) → Int → Int → Int → Int → Int → (Int → Int → Option α) → Option α
def J23_0_15g (vJ23_0_14 : TJ23_0_14) (α : Type) (x634 x635 x638 x639 x649 : Int) (k1 : Int → Int → Option α) : Option α :=
 vJ23_0_14 α x649
 (k1 (w64 (x634 + (w64 (x649 * x639)))) (w64 (x635 + (w64 (x649 * x638)))))
 (fun x711 => k1 (w64 (x634 + (w64 (x649 * x638)))) (w64 (x635 + (w64 (x649 * x639)))))
noncomputable def J23_0_15 (α : Type) (x634 x635 x638 x639 x649 : Int) (k1 : Int → Int → Option α) : Option α := J23_0_15g J23_0_14 α x634 x635 x638 x639 x649 k1
def F23_0_15 (v : TJ23_0_15) (α : Type) (K : Exit → St → Option α) : Int → Int → Int → Int → Int → Int → Int → Int → Int → Int → Int → Int → Int → Int → Int → Int → Int → Int → Int → Int → Int → Int → Int → Int → Int → Int → Int → Int → Int → Int → Int → Int → Int → Int → Int → Int → Int → Option α := fun x632 x633 x634 x635 x636 x637 x638 x639 x640 x641 x642 x643 x644 x645 x646 x647 x648 x649 x650 x651 x652 x653 x654 x655 x656 x657 x658 x659 x660 x661 x662 x663 x664 x665 x666 x667 x668 => v α x634 x635 x638 x639 x649 (fun (y1 : Int) (y2 : Int) => u23_0_26 (K .normal) x632 x633 y1 y2 x636 x637 x638 x639 x640 x641 x642 x643 x644 x645 x646 x647 x648 x649 x650 x651 x652 x653 x654 x655 x656 x657 x658 x659 x660 x661 x662 x663 x664 x665 x666 x667 x668) 
theorem m23_0_15g (vf57_0 : Tf57_0) (vf48_0 : Tf48_0) (vf49_0 : Tf49_0) (vf58_0 : Tf58_0) (vJ23_0_0 : TJ23_0_0) (vJ23_0_2 : TJ23_0_2) (vJ23_0_4 : TJ23_0_4) (vJ23_0_6 : TJ23_0_6) (vJ23_0_8 : TJ23_0_8) (vJ23_0_10 : TJ23_0_10) (vJ23_0_12 : TJ23_0_12) (vJ23_0_14 : TJ23_0_14) (vJ23_0_16 : TJ23_0_16) (α : Type) (K : Exit → St → Option α) : F23_0_15 (J23_0_15g vJ23_0_14) α K = p23_0_23.unc fun σ => runM Try.prog (E23_0g vf57_0 vf48_0 vf49_0 vf58_0) sh23 (c23_0_24g vJ23_0_0 vJ23_0_2 vJ23_0_4 vJ23_0_6 vJ23_0_8 vJ23_0_10 vJ23_0_12 vJ23_0_14 vJ23_0_16) K σ := by kernel_rfl
theorem m23_0_15 : ∀ (α : Type) (K : Exit → St → Option α), F23_0_15 J23_0_15 α K = p23_0_23.unc fun σ => runM Try.prog E23_0 sh23 c23_0_24 K σ := m23_0_15g f57_0 f48_0 f49_0 f58_0 J23_0_0 J23_0_2 J23_0_4 J23_0_6 J23_0_8 J23_0_10 J23_0_12 J23_0_14 J23_0_16
--CODE 24 0
abbrev TJ23_0_17 : Type 1 := (α : Type) → Int → Int → Int → Int → Int → (Int → Int → Option α) → Option α
def J23_0_17g (vJ23_0_16 : TJ23_0_16) (α : Type) (x718 x719 x724 x725 x734 : Int) (k1 : Int → Int → Option α) : Option α :=
 vJ23_0_16 α x734
 (k1 (w64 (x718 + (w64 (x734 * x725)))) (w64 (x719 + (w64 (x734 * x724)))))
 (fun x795 => k1 (w64 (x718 + (w64 (x734 * x724)))) (w64 (x719 + (w64 (x734 * x725)))))
noncomputable def J23_0_17 (α : Type) (x718 x719 x724 x725 x734 : Int) (k1 : Int → Int → Option α) : Option α := J23_0_17g J23_0_16 α x718 x719 x724 x725 x734 k1
def F23_0_17 (v : TJ23_0_17) (α : Type) (K : Exit → St → Option α) : Int → Int → Int → Int → Int → Int → Int → Int → Int → Int → Int → Int → Int → Int → Int → Int → Int → Int → Int → Int → Int → Int → Int → Int → Int → Int → Int → Int → Int → Int → Int → Int → Int → Int → Int → Int → Int → Option α := fun x716 x717 x718 x719 x720 x721 x722 x723 x724 x725 x726 x727 x728 x729 x730 x731 x732 x733 x734 x735 x736 x737 x738 x739 x740 x741 x742 x743 x744 x745 x746 x747 x748 x749 x750 x751 x752 => v α x718 x719 x724 x725 x734 (fun (y1 : Int) (y2 : Int) => u23_0_29 (K .normal) x716 x717 y1 y2 x720 x721 x722 x723 x724 x725 x726 x727 x728 x729 x730 x731 x732 x733 x734 x735 x736 x737 x738 x739 x740 x741 x742 x743 x744 x745 x746 x747 x748 x749 x750 x751 x752) 
theorem m23_0_17g (vf57_0 : Tf57_0) (vf48_0 : Tf48_0) (vf49_0 : Tf49_0) (vf58_0 : Tf58_0) (vJ23_0_0 : TJ23_0_0) (vJ23_0_2 : TJ23_0_2) (vJ23_0_4 : TJ23_0_4) (vJ23_0_6 : TJ23_0_6) (vJ23_0_8 : TJ23_0_8) (vJ23_0_10 : TJ23_0_10) (vJ23_0_12 : TJ23_0_12) (vJ23_0_14 : TJ23_0_14) (vJ23_0_16 : TJ23_0_16) (α : Type) (K : Exit → St → Option α) : F23_0_17 (J23_0_17g vJ23_0_16) α K = p23_0_26.unc fun σ => runM Try.prog (E23_0g vf57_0 vf48_0 vf49_0 vf58_0) sh23 (c23_0_24g vJ23_0_0 vJ23_0_2 vJ23_0_4 vJ23_0_6 vJ23_0_8 vJ23_0_10 vJ23_0_12 vJ23_0_14 vJ23_0_16) K σ := by kernel_rfl
theorem m23_0_17 : ∀ (α : Type) (K : Exit → St → Option α), F23_0_17 J23_0_17 α K = p23_0_26.unc fun σ => runM Try.prog E23_0 sh23 c23_0_24 K σ := m23_0_17g f57_0 f48_0 f49_0 f58_0 J23_0_0 J23_0_2 J23_0_4 J23_0_6 J23_0_8 J23_0_10 J23_0_12 J23_0_14 J23_0_16
abbrev Tf23_0 : Type 1 := (α : Type) → Int → Int → Int → Int → Int → Int → Int → Int → Int → Int → Int → Int → Int → Int → Int → Int → Int → (Int → Int → Int → Int → Int → Int → Int → Option α) → Option α
def f23_0g (vJ23_0_1 : TJ23_0_1) (vJ23_0_11 : TJ23_0_11) (vJ23_0_13 : TJ23_0_13) (vJ23_0_15 : TJ23_0_15) (vJ23_0_17 : TJ23_0_17) (vJ23_0_3 : TJ23_0_3) (vJ23_0_5 : TJ23_0_5) (vJ23_0_7 : TJ23_0_7) (vJ23_0_9 : TJ23_0_9) (vf48_0 : Tf48_0) (vf49_0 : Tf49_0) (vf57_0 : Tf57_0) (vf58_0 : Tf58_0) (α : Type) (x1 x2 x3 x4 x5 x6 x7 x8 x9 x10 x11 x12 x13 x14 x15 x16 x17 : Int) (k1 : Int → Int → Int → Int → Int → Int → Int → Option α) : Option α :=
 vf57_0 α x10 x11 x12 x13 x14 x15
 (fun x18 x19 x20 x21 x22 x23 => vJ23_0_1 α 0 0 x18 x19 x1
 (fun x105 x106 => vJ23_0_3 α x105 x106 x20 x21 x2
 (fun x189 x190 => vJ23_0_5 α x189 x190 x22 x23 x3
 (fun x273 x274 => vf48_0 α (w64 (x273 * x16)) x17
 (fun x276 => vf49_0 α (w64 (x274 * x16)) x17
 (fun x277 => vf58_0 α x276 10000000
 (fun x278 => cK (!x278)
 (k1 0 0 0 0 0 0 8)
 (vf58_0 α x277 10000000
 (fun x279 => cK (!x279)
 (k1 0 0 0 0 0 0 8)
 (vf57_0 α x10 x11 x12 x13 x14 x15
 (fun x280 x281 x282 x283 x284 x285 => vJ23_0_7 α 0 0 x280 x281 x4
 (fun x367 x368 => vJ23_0_9 α x367 x368 x282 x283 x5
 (fun x451 x452 => vJ23_0_11 α x451 x452 x284 x285 x6
 (fun x535 x536 => vf48_0 α (w64 (x535 * x16)) x17
 (fun x538 => vf49_0 α (w64 (x536 * x16)) x17
 (fun x539 => vf58_0 α x538 10000000
 (fun x540 => cK (!x540)
 (k1 0 0 0 0 0 0 8)
 (vf58_0 α x539 10000000
 (fun x541 => cK (!x541)
 (k1 0 0 0 0 0 0 8)
 (vf57_0 α x10 x11 x12 x13 x14 x15
 (fun x542 x543 x544 x545 x546 x547 => vJ23_0_13 α 0 0 x542 x543 x7
 (fun x629 x630 => vJ23_0_15 α x629 x630 x544 x545 x8
 (fun x713 x714 => vJ23_0_17 α x713 x714 x546 x547 x9
 (fun x797 x798 => vf48_0 α (w64 (x797 * x16)) x17
 (fun x800 => vf49_0 α (w64 (x798 * x16)) x17
 (fun x801 => vf58_0 α x800 10000000
 (fun x802 => cK (!x802)
 (k1 0 0 0 0 0 0 8)
 (vf58_0 α x801 10000000
 (fun x803 => cK (!x803)
 (k1 0 0 0 0 0 0 8)
 (k1 x276 x277 x538 x539 x800 x801 0))))))))))))))))))))))))))))))
noncomputable def f23_0 (α : Type) (x1 x2 x3 x4 x5 x6 x7 x8 x9 x10 x11 x12 x13 x14 x15 x16 x17 : Int) (k1 : Int → Int → Int → Int → Int → Int → Int → Option α) : Option α := f23_0g J23_0_1 J23_0_11 J23_0_13 J23_0_15 J23_0_17 J23_0_3 J23_0_5 J23_0_7 J23_0_9 f48_0 f49_0 f57_0 f58_0 α x1 x2 x3 x4 x5 x6 x7 x8 x9 x10 x11 x12 x13 x14 x15 x16 x17 k1
def pa23_0 : PT (List DV) := pA [pV true [(dI .i64), (dI .i64), (dI .i64), (dI .i64), (dI .i64), (dI .i64), (dI .i64), (dI .i64), (dI .i64)], pV true [(dI .i64), (dI .i64), (dI .i64), (dI .i64), (dI .i64), (dI .i64)], pV false [(dI .i64)], pV false [(dI .i64)]]
def Fn23_0 (v : Tf23_0) (α : Type) (k : List RV → Option α) : Int → Int → Int → Int → Int → Int → Int → Int → Int → Int → Int → Int → Int → Int → Int → Int → Int → Option α := fun x1 x2 x3 x4 x5 x6 x7 x8 x9 x10 x11 x12 x13 x14 x15 x16 x17 => v α x1 x2 x3 x4 x5 x6 x7 x8 x9 x10 x11 x12 x13 x14 x15 x16 x17 (fun (y1 : Int) (y2 : Int) (y3 : Int) (y4 : Int) (y5 : Int) (y6 : Int) (y7 : Int) => ur23_0_0 k y1 y2 y3 y4 y5 y6 y7)
noncomputable def cm23_0g (vJ23_0_1 : TJ23_0_1) (vJ23_0_3 : TJ23_0_3) (vJ23_0_5 : TJ23_0_5) (vJ23_0_7 : TJ23_0_7) (vJ23_0_9 : TJ23_0_9) (vJ23_0_11 : TJ23_0_11) (vJ23_0_13 : TJ23_0_13) (vJ23_0_15 : TJ23_0_15) (vJ23_0_17 : TJ23_0_17) : MCode := (.seq (.region r23_2 [] (tO [2, 3, 4, 5, 8])) (.seq (.region r23_4 [] (tO [2, 3, 4, 5, 8, 10])) (.seq (.seq (.region r23_7 [] (tO [2, 3, 4, 5, 8, 10, 17])) (.block 0 (.loopU 4 td23_9 (.seq (.region r23_11 [] (tO [2, 3, 4, 5, 8, 10, 17, 18])) (.seq (.cond (.tmp 18) .skip (.exit 0)) (.seq (.block 1 (.seq (.region r23_17 [] (tO [2, 3, 4, 5, 8, 10, 11, 17])) (.seq (.region r23_19 [] (tO [2, 3, 4, 5, 8, 10, 11, 12, 13, 17])) (.seq (.seq (.region r23_22 [] (tO [2, 3, 4, 5, 8, 10, 11, 12, 13, 17, 21, 22])) (.block 2 (.loopU 4 td23_24 (.mark [⟨p23_0_2, F23_0_1 vJ23_0_1⟩, ⟨p23_0_3, F23_0_3 vJ23_0_3⟩, ⟨p23_0_6, F23_0_5 vJ23_0_5⟩, ⟨p23_0_12, F23_0_7 vJ23_0_7⟩, ⟨p23_0_13, F23_0_9 vJ23_0_9⟩, ⟨p23_0_16, F23_0_11 vJ23_0_11⟩, ⟨p23_0_22, F23_0_13 vJ23_0_13⟩, ⟨p23_0_23, F23_0_15 vJ23_0_15⟩, ⟨p23_0_26, F23_0_17 vJ23_0_17⟩] c23_0_24)))) (.seq (.region r23_43 [] (tO [2, 3, 4, 5, 8, 10, 11, 17])) (.seq (.region r23_45 [] (tO [2, 3, 4, 5, 8, 10, 17, 78])) (.cond (.tmp 78) (.seq (.region r23_48 [] (tO [8, 9])) .ret) .skip))))))) (.region r23_49 [] (tO [2, 3, 4, 5, 8, 10, 17])))))))) (.seq (.region r23_51 [] (tO [8, 9])) .ret))))
noncomputable def cm23_0 : MCode := cm23_0g J23_0_1 J23_0_3 J23_0_5 J23_0_7 J23_0_9 J23_0_11 J23_0_13 J23_0_15 J23_0_17
theorem gm23_0 : cm23_0.Good Try.prog E23_0 sh23 := ⟨trivial, ⟨trivial, ⟨⟨trivial, ⟨⟨trivial, ⟨⟨trivial, trivial⟩, ⟨⟨trivial, ⟨trivial, ⟨⟨trivial, ⟨⟨g23_0_24, m23_0_1, m23_0_3, m23_0_5, m23_0_7, m23_0_9, m23_0_11, m23_0_13, m23_0_15, m23_0_17, trivial⟩, by decide⟩⟩, ⟨trivial, ⟨trivial, ⟨⟨trivial, trivial⟩, trivial⟩⟩⟩⟩⟩⟩, trivial⟩⟩⟩, by decide⟩⟩, ⟨trivial, trivial⟩⟩⟩⟩
theorem fm23_0g (vf57_0 : Tf57_0) (vf48_0 : Tf48_0) (vf49_0 : Tf49_0) (vf58_0 : Tf58_0) (vJ23_0_1 : TJ23_0_1) (vJ23_0_3 : TJ23_0_3) (vJ23_0_5 : TJ23_0_5) (vJ23_0_7 : TJ23_0_7) (vJ23_0_9 : TJ23_0_9) (vJ23_0_11 : TJ23_0_11) (vJ23_0_13 : TJ23_0_13) (vJ23_0_15 : TJ23_0_15) (vJ23_0_17 : TJ23_0_17) (α : Type) (k : List RV → Option α) : Fn23_0 (f23_0g vJ23_0_1 vJ23_0_11 vJ23_0_13 vJ23_0_15 vJ23_0_17 vJ23_0_3 vJ23_0_5 vJ23_0_7 vJ23_0_9 vf48_0 vf49_0 vf57_0 vf58_0) α k = pa23_0.unc fun ds => fnM Try.prog (E23_0g vf57_0 vf48_0 vf49_0 vf58_0) sh23 (cm23_0g vJ23_0_1 vJ23_0_3 vJ23_0_5 vJ23_0_7 vJ23_0_9 vJ23_0_11 vJ23_0_13 vJ23_0_15 vJ23_0_17) rs23 k ds := by kernel_rfl
theorem fm23_0 : ∀ (α : Type) (k : List RV → Option α), Fn23_0 f23_0 α k = pa23_0.unc fun ds => fnM Try.prog E23_0 sh23 cm23_0 rs23 k ds := fm23_0g f57_0 f48_0 f49_0 f58_0 J23_0_1 J23_0_3 J23_0_5 J23_0_7 J23_0_9 J23_0_11 J23_0_13 J23_0_15 J23_0_17
theorem is23 : FnIs Try.prog 23 nt23 tr23 tl23 cm23_0.erase rs23 := ⟨Try.f23, Try.func23, rfl, by kernel_rfl, by kernel_rfl, by kernel_rfl⟩
theorem io23_0 : InstOk Try.prog 23 nt23 ⟨pa23_0, Fn23_0 f23_0⟩ := inst_ok eo23_0 followsTry is23 ⟨⟨sh23, cm23_0, by kernel_rfl, gm23_0, fm23_0⟩⟩
abbrev nt35 : Nat := 5
def sh35 : List (Nat × List Sh) := []
def r35_2 : List AOper := [oO 2 (.mv (.const (.bool false)))]
def r35_4 : List AOper := [oM 3 0, oO 4 (.call 58 [(.tmp 3), (kI 1000)]), oM 2 4]
def tr35 : List (Nat × Tidy) := [tT 0 [0], tT 1 [2]]
def tl35 : List (Nat × Tidy) := []
def rs35 : List AResV := [.tmp 2]
def pr35_0_0 : PT (List RV) := pRs [pR false [rD dB]]
def ur35_0_0 {β : Type} (g : List RV → β) : Bool → β := pr35_0_0.unc g
def E35_0g (vf58_0 : Tf58_0) : EnvK := EnvK.of [⟨58, nt58, [⟨pa58_0, Fn58_0 vf58_0⟩]⟩] noSeq
noncomputable def E35_0 : EnvK := E35_0g f58_0
theorem eo35_0 : E35_0.Ok Try.prog := EnvK.of_ok noSeq_ok ⟨⟨io58_0, trivial⟩, trivial⟩
abbrev Tf35_0 : Type 1 := (α : Type) → Int → (Bool → Option α) → Option α
def f35_0g (vf58_0 : Tf58_0) (α : Type) (x1 : Int) (k1 : Bool → Option α) : Option α :=
 vf58_0 α x1 1000
 (fun x2 => k1 x2)
noncomputable def f35_0 (α : Type) (x1 : Int) (k1 : Bool → Option α) : Option α := f35_0g f58_0 α x1 k1
def pa35_0 : PT (List DV) := pA [pV false [(dI .i64)]]
def Fn35_0 (v : Tf35_0) (α : Type) (k : List RV → Option α) : Int → Option α := fun x1 => v α x1 (fun (y1 : Bool) => ur35_0_0 k y1)
noncomputable def cm35_0g  : MCode := (.seq (.region r35_2 [] (tO [0])) (.seq (.region r35_4 [] (tO [2])) .ret))
noncomputable def cm35_0 : MCode := cm35_0g 
theorem gm35_0 : cm35_0.Good Try.prog E35_0 sh35 := ⟨trivial, ⟨trivial, trivial⟩⟩
theorem fm35_0g (vf58_0 : Tf58_0)  (α : Type) (k : List RV → Option α) : Fn35_0 (f35_0g vf58_0) α k = pa35_0.unc fun ds => fnM Try.prog (E35_0g vf58_0) sh35 (cm35_0g ) rs35 k ds := by kernel_rfl
theorem fm35_0 : ∀ (α : Type) (k : List RV → Option α), Fn35_0 f35_0 α k = pa35_0.unc fun ds => fnM Try.prog E35_0 sh35 cm35_0 rs35 k ds := fm35_0g f58_0
theorem is35 : FnIs Try.prog 35 nt35 tr35 tl35 cm35_0.erase rs35 := ⟨Try.f35, Try.func35, rfl, by kernel_rfl, by kernel_rfl, by kernel_rfl⟩
theorem io35_0 : InstOk Try.prog 35 nt35 ⟨pa35_0, Fn35_0 f35_0⟩ := inst_ok eo35_0 followsTry is35 ⟨⟨sh35, cm35_0, by kernel_rfl, gm35_0, fm35_0⟩⟩
abbrev nt73 : Nat := 24
def sh73 : List (Nat × List Sh) := [(7, [.int .i64]), (13, [.int .i64]), (20, [.int .i64]), (22, [.int .i64])]
def r73_2 : List AOper := [oO 2 (.box (.tmp 0)), oO 4 (.mv (kI 0))]
def r73_6 : List AOper := [oO 6 (.faddr 0 (.tmp 2)), oO 7 (.load false 1 (.tmp 6)), oM 8 1, oO 9 (.call 58 [(.tmp 7), (.tmp 8)]), oO 10 (.pure (oB (.unOp .not 4 (.tmp 9)) 4)), oM 11 10, oG 12 (.faddr 1 (.tmp 2)) 11 false, oG 13 (.load false 1 (.tmp 12)) 11 false, oG 14 (.mv (.tmp 1)) 11 false, oG 15 (.call 58 [(.tmp 13), (.tmp 14)]) 11 false, oG 16 (.pure (oB (.unOp .not 4 (.tmp 15)) 4)) 11 false, oO 17 (.pick (.tmp 11) (.const (.bool true)) (.tmp 16)), oM 5 17]
def r73_9 : List AOper := [oO 4 (.mv (kI 2))]
def r73_11 : List AOper := [oO 19 (.faddr 0 (.tmp 2)), oO 20 (.load false 1 (.tmp 19)), oO 21 (.faddr 1 (.tmp 2)), oO 22 (.load false 1 (.tmp 21)), oO 23 (.bin .gtr 3 (.tmp 20) (.tmp 22)), oM 18 23]
def r73_14 : List AOper := [oO 4 (.mv (kI 10))]
def r73_16 : List AOper := [oO 4 (.mv (kI 0))]
def tr73 : List (Nat × Tidy) := [tT 0 [1, 2], tT 1 [2, 5], tT 2 [4], tT 3 [18], tT 4 [4], tT 5 [4]]
def tl73 : List (Nat × Tidy) := []
def rs73 : List AResV := [.tmp 4]
def p73_0_0 : PT St := pS [sl 1 (aV false [(cD (dI .i64))]), sl 2 (aV false [(cPtr 2 0)])] [eBox 2 [(cD (dI .i64)), (cD (dI .i64))]]
def u73_0_0 {β : Type} (g : St → β) : Int → Int → Int → β := p73_0_0.unc g
def p73_0_1 : PT St := pS [sl 2 (aV false [(cPtr 2 0)]), sl 5 (aV false [(cD dB)])] [eBox 2 [(cD (dI .i64)), (cD (dI .i64))]]
def u73_0_1 {β : Type} (g : St → β) : Bool → Int → Int → β := p73_0_1.unc g
def pr73_0_0 : PT (List RV) := pRs [pR false [rD (dI .i64)]]
def ur73_0_0 {β : Type} (g : List RV → β) : Int → β := pr73_0_0.unc g
def E73_0g (vf58_0 : Tf58_0) : EnvK := EnvK.of [⟨58, nt58, [⟨pa58_0, Fn58_0 vf58_0⟩]⟩] noSeq
noncomputable def E73_0 : EnvK := E73_0g f58_0
theorem eo73_0 : E73_0.Ok Try.prog := EnvK.of_ok noSeq_ok ⟨⟨io58_0, trivial⟩, trivial⟩
noncomputable def c73_0_5g  : MCode := (.region r73_6 [] (tO [2, 5]))
noncomputable def c73_0_5 : MCode := c73_0_5g 
theorem g73_0_5 : c73_0_5.Good Try.prog E73_0 sh73 := trivial
--CODE 5 0
abbrev TJ73_0_0 : Type 1 := (α : Type) → Int → Int → Int → (Bool → Option α) → Option α
def J73_0_0g (vf58_0 : Tf58_0) (α : Type) (x4 x5 x6 : Int) (k1 : Bool → Option α) : Option α :=
 vf58_0 α x5 x4
 (fun x8 => cK (!x8)
 (k1 true)
 (vf58_0 α x6 x4
 (fun x9 => k1 (!x9))))
noncomputable def J73_0_0 (α : Type) (x4 x5 x6 : Int) (k1 : Bool → Option α) : Option α := J73_0_0g f58_0 α x4 x5 x6 k1
def F73_0_0 (v : TJ73_0_0) (α : Type) (K : Exit → St → Option α) : Int → Int → Int → Option α := fun x4 x5 x6 => v α x4 x5 x6 (fun (y1 : Bool) => u73_0_1 (K .normal) y1 x5 x6) 
theorem m73_0_0g (vf58_0 : Tf58_0)  (α : Type) (K : Exit → St → Option α) : F73_0_0 (J73_0_0g vf58_0) α K = p73_0_0.unc fun σ => runM Try.prog (E73_0g vf58_0) sh73 (c73_0_5g ) K σ := by kernel_rfl
theorem m73_0_0 : ∀ (α : Type) (K : Exit → St → Option α), F73_0_0 J73_0_0 α K = p73_0_0.unc fun σ => runM Try.prog E73_0 sh73 c73_0_5 K σ := m73_0_0g f58_0
abbrev Tf73_0 : Type 1 := (α : Type) → Int → Int → Int → (Int → Option α) → Option α
def f73_0g (vJ73_0_0 : TJ73_0_0) (α : Type) (x1 x2 x3 : Int) (k1 : Int → Option α) : Option α :=
 vJ73_0_0 α x3 x1 x2
 (fun x10 => cK x10
 (k1 2)
 (cK (decide (x2 < x1))
 (k1 10)
 (k1 0)))
noncomputable def f73_0 (α : Type) (x1 x2 x3 : Int) (k1 : Int → Option α) : Option α := f73_0g J73_0_0 α x1 x2 x3 k1
def pa73_0 : PT (List DV) := pA [pV true [(dI .i64), (dI .i64)], pV false [(dI .i64)]]
def Fn73_0 (v : Tf73_0) (α : Type) (k : List RV → Option α) : Int → Int → Int → Option α := fun x1 x2 x3 => v α x1 x2 x3 (fun (y1 : Int) => ur73_0_0 k y1)
noncomputable def cm73_0g (vJ73_0_0 : TJ73_0_0) : MCode := (.seq (.region r73_2 [] (tO [1, 2])) (.seq (.block 0 (.seq (.mark [⟨p73_0_0, F73_0_0 vJ73_0_0⟩] c73_0_5) (.cond (.tmp 5) (.seq (.region r73_9 [] (tO [4])) .ret) (.seq (.region r73_11 [] (tO [18])) (.cond (.tmp 18) (.seq (.region r73_14 [] (tO [4])) .ret) .skip))))) (.seq (.region r73_16 [] (tO [4])) .ret)))
noncomputable def cm73_0 : MCode := cm73_0g J73_0_0
theorem gm73_0 : cm73_0.Good Try.prog E73_0 sh73 := ⟨trivial, ⟨⟨⟨g73_0_5, m73_0_0, trivial⟩, ⟨⟨trivial, trivial⟩, ⟨trivial, ⟨⟨trivial, trivial⟩, trivial⟩⟩⟩⟩, ⟨trivial, trivial⟩⟩⟩
theorem fm73_0g (vf58_0 : Tf58_0) (vJ73_0_0 : TJ73_0_0) (α : Type) (k : List RV → Option α) : Fn73_0 (f73_0g vJ73_0_0) α k = pa73_0.unc fun ds => fnM Try.prog (E73_0g vf58_0) sh73 (cm73_0g vJ73_0_0) rs73 k ds := by kernel_rfl
theorem fm73_0 : ∀ (α : Type) (k : List RV → Option α), Fn73_0 f73_0 α k = pa73_0.unc fun ds => fnM Try.prog E73_0 sh73 cm73_0 rs73 k ds := fm73_0g f58_0 J73_0_0
theorem is73 : FnIs Try.prog 73 nt73 tr73 tl73 cm73_0.erase rs73 := ⟨Try.f73, Try.func73, rfl, by kernel_rfl, by kernel_rfl, by kernel_rfl⟩
theorem io73_0 : InstOk Try.prog 73 nt73 ⟨pa73_0, Fn73_0 f73_0⟩ := inst_ok eo73_0 followsTry is73 ⟨⟨sh73, cm73_0, by kernel_rfl, gm73_0, fm73_0⟩⟩
abbrev nt34 : Nat := 6
def sh34 : List (Nat × List Sh) := []
def r34_2 : List AOper := [oO 2 (.mv (.const (.bool false)))]
def r34_4 : List AOper := [oM 3 0, oO 4 (.call 35 [(.tmp 3)]), oO 5 (.pure (oB (.unOp .not 4 (.tmp 4)) 4)), oM 2 5]
def tr34 : List (Nat × Tidy) := [tT 0 [0], tT 1 [2]]
def tl34 : List (Nat × Tidy) := []
def rs34 : List AResV := [.tmp 2]
def pr34_0_0 : PT (List RV) := pRs [pR false [rD dB]]
def ur34_0_0 {β : Type} (g : List RV → β) : Bool → β := pr34_0_0.unc g
def E34_0g (vf35_0 : Tf35_0) : EnvK := EnvK.of [⟨35, nt35, [⟨pa35_0, Fn35_0 vf35_0⟩]⟩] noSeq
noncomputable def E34_0 : EnvK := E34_0g f35_0
theorem eo34_0 : E34_0.Ok Try.prog := EnvK.of_ok noSeq_ok ⟨⟨io35_0, trivial⟩, trivial⟩
abbrev Tf34_0 : Type 1 := (α : Type) → Int → (Bool → Option α) → Option α
def f34_0g (vf35_0 : Tf35_0) (α : Type) (x1 : Int) (k1 : Bool → Option α) : Option α :=
 vf35_0 α x1
 (fun x2 => k1 (!x2))
noncomputable def f34_0 (α : Type) (x1 : Int) (k1 : Bool → Option α) : Option α := f34_0g f35_0 α x1 k1
def pa34_0 : PT (List DV) := pA [pV false [(dI .i64)]]
def Fn34_0 (v : Tf34_0) (α : Type) (k : List RV → Option α) : Int → Option α := fun x1 => v α x1 (fun (y1 : Bool) => ur34_0_0 k y1)
noncomputable def cm34_0g  : MCode := (.seq (.region r34_2 [] (tO [0])) (.seq (.region r34_4 [] (tO [2])) .ret))
noncomputable def cm34_0 : MCode := cm34_0g 
theorem gm34_0 : cm34_0.Good Try.prog E34_0 sh34 := ⟨trivial, ⟨trivial, trivial⟩⟩
theorem fm34_0g (vf35_0 : Tf35_0)  (α : Type) (k : List RV → Option α) : Fn34_0 (f34_0g vf35_0) α k = pa34_0.unc fun ds => fnM Try.prog (E34_0g vf35_0) sh34 (cm34_0g ) rs34 k ds := by kernel_rfl
theorem fm34_0 : ∀ (α : Type) (k : List RV → Option α), Fn34_0 f34_0 α k = pa34_0.unc fun ds => fnM Try.prog E34_0 sh34 cm34_0 rs34 k ds := fm34_0g f35_0
theorem is34 : FnIs Try.prog 34 nt34 tr34 tl34 cm34_0.erase rs34 := ⟨Try.f34, Try.func34, rfl, by kernel_rfl, by kernel_rfl, by kernel_rfl⟩
theorem io34_0 : InstOk Try.prog 34 nt34 ⟨pa34_0, Fn34_0 f34_0⟩ := inst_ok eo34_0 followsTry is34 ⟨⟨sh34, cm34_0, by kernel_rfl, gm34_0, fm34_0⟩⟩
abbrev nt63 : Nat := 6
def sh63 : List (Nat × List Sh) := []
def r63_2 : List AOper := [oO 2 (.mv (.const (.bool false)))]
def r63_4 : List AOper := [oM 3 0, oO 4 (.call 35 [(.tmp 3)]), oO 5 (.pure (oB (.unOp .not 4 (.tmp 4)) 4)), oM 2 5]
def tr63 : List (Nat × Tidy) := [tT 0 [0], tT 1 [2]]
def tl63 : List (Nat × Tidy) := []
def rs63 : List AResV := [.tmp 2]
def pr63_0_0 : PT (List RV) := pRs [pR false [rD dB]]
def ur63_0_0 {β : Type} (g : List RV → β) : Bool → β := pr63_0_0.unc g
def E63_0g (vf35_0 : Tf35_0) : EnvK := EnvK.of [⟨35, nt35, [⟨pa35_0, Fn35_0 vf35_0⟩]⟩] noSeq
noncomputable def E63_0 : EnvK := E63_0g f35_0
theorem eo63_0 : E63_0.Ok Try.prog := EnvK.of_ok noSeq_ok ⟨⟨io35_0, trivial⟩, trivial⟩
abbrev Tf63_0 : Type 1 := (α : Type) → Int → (Bool → Option α) → Option α
def f63_0g (vf35_0 : Tf35_0) (α : Type) (x1 : Int) (k1 : Bool → Option α) : Option α :=
 vf35_0 α x1
 (fun x2 => k1 (!x2))
noncomputable def f63_0 (α : Type) (x1 : Int) (k1 : Bool → Option α) : Option α := f63_0g f35_0 α x1 k1
def pa63_0 : PT (List DV) := pA [pV false [(dI .i64)]]
def Fn63_0 (v : Tf63_0) (α : Type) (k : List RV → Option α) : Int → Option α := fun x1 => v α x1 (fun (y1 : Bool) => ur63_0_0 k y1)
noncomputable def cm63_0g  : MCode := (.seq (.region r63_2 [] (tO [0])) (.seq (.region r63_4 [] (tO [2])) .ret))
noncomputable def cm63_0 : MCode := cm63_0g 
theorem gm63_0 : cm63_0.Good Try.prog E63_0 sh63 := ⟨trivial, ⟨trivial, trivial⟩⟩
theorem fm63_0g (vf35_0 : Tf35_0)  (α : Type) (k : List RV → Option α) : Fn63_0 (f63_0g vf35_0) α k = pa63_0.unc fun ds => fnM Try.prog (E63_0g vf35_0) sh63 (cm63_0g ) rs63 k ds := by kernel_rfl
theorem fm63_0 : ∀ (α : Type) (k : List RV → Option α), Fn63_0 f63_0 α k = pa63_0.unc fun ds => fnM Try.prog E63_0 sh63 cm63_0 rs63 k ds := fm63_0g f35_0
theorem is63 : FnIs Try.prog 63 nt63 tr63 tl63 cm63_0.erase rs63 := ⟨Try.f63, Try.func63, rfl, by kernel_rfl, by kernel_rfl, by kernel_rfl⟩
theorem io63_0 : InstOk Try.prog 63 nt63 ⟨pa63_0, Fn63_0 f63_0⟩ := inst_ok eo63_0 followsTry is63 ⟨⟨sh63, cm63_0, by kernel_rfl, gm63_0, fm63_0⟩⟩
abbrev nt68 : Nat := 21
def sh68 : List (Nat × List Sh) := [(12, [.int .i64, .int .i64]), (13, [.int .i64, .int .i64]), (14, [.int .i64, .int .i64])]
def r68_2 : List AOper := [oO 4 (.mv (kI 0))]
def r68_5 : List AOper := [oM 8 1, oO 9 (.len (.tmp 8)), oO 10 (.mv (kI 0))]
def td68_7 : Option Tidy := (some ⟨[0, 8, 9, 10], true, [⟨false, 8, 0, 20008, 2⟩], []⟩)
def r68_9 : List AOper := [oO 11 (.bin .lss 3 (.tmp 10) (.tmp 9))]
def r68_15 : List AOper := [oO 12 (.iaddr 2 none (.tmp 8) (.tmp 10)), oO 13 (.load true 2 (.tmp 12)), oO 6 (.alloc [(cI 0), (cI 0)]), oD (.store 2 (.tmp 6) (.tmp 13))]
def r68_17 : List AOper := [oO 14 (.load true 2 (.tmp 6)), oM 15 0, oO 16 (.call 73 [(.tmp 14), (.tmp 15)]), oM 7 16]
def r68_19 : List AOper := [oM 17 7, oO 18 (.bin .neq 30 (.tmp 17) (kI 0))]
def r68_22 : List AOper := [oM 19 7, oM 4 19]
def r68_23 : List AOper := [oO 20 (.bin .add 3 (.tmp 10) (kI 1)), oM 10 20]
def r68_25 : List AOper := [oO 4 (.mv (kI 0))]
def tr68 : List (Nat × Tidy) := [tT 0 [0, 1], tT 1 [0, 8, 9, 10], tT 2 [0, 8, 9, 10, 11], tT 3 [0, 6, 8, 9, 10], tT 4 [0, 7, 8, 9, 10], tT 5 [0, 7, 8, 9, 10, 18], tT 6 [4], tT 7 [0, 8, 9, 10], tT 8 [4]]
def tl68 : List (Nat × Tidy) := [(2, ⟨[0, 8, 9, 10], true, [⟨false, 8, 0, 20008, 2⟩], []⟩)]
def rs68 : List AResV := [.tmp 4]
def p68_0_0 : PT St := pS [sl 0 (aV false [(cD (dI .i64))]), sl 8 (aV false [(cD dL)]), sl 9 (aV false [(cD (dI .i64))]), sl 10 (aV false [(cD (dI .i64))])] []
def u68_0_0 {β : Type} (g : St → β) : Int → Rows → Int → Int → β := p68_0_0.unc g
def p68_0_1 : PT St := pS [sl 4 (aV false [(cD (dI .i64))])] []
def u68_0_1 {β : Type} (g : St → β) : Int → β := p68_0_1.unc g
def p68_0_2 : PT St := pS [sl 0 (aV false [(cD (dI .i64))]), sl 8 (aV false [(cD dL)]), sl 9 (aV false [(cD (dI .i64))]), sl 10 (aV false [(cD (dI .i64))]), sl 11 (aV false [(cD dB)])] []
def u68_0_2 {β : Type} (g : St → β) : Int → Rows → Int → Int → Bool → β := p68_0_2.unc g
def pr68_0_0 : PT (List RV) := pRs [pR false [rD (dI .i64)]]
def ur68_0_0 {β : Type} (g : List RV → β) : Int → β := pr68_0_0.unc g
def E68_0g (vf73_0 : Tf73_0) : EnvK := EnvK.of [⟨73, nt73, [⟨pa73_0, Fn73_0 vf73_0⟩]⟩] noSeq
noncomputable def E68_0 : EnvK := E68_0g f73_0
theorem eo68_0 : E68_0.Ok Try.prog := EnvK.of_ok noSeq_ok ⟨⟨io73_0, trivial⟩, trivial⟩
noncomputable def c68_0_7g  : MCode := (.seq (.region r68_9 [] (tO [0, 8, 9, 10, 11])) (.seq (.cond (.tmp 11) .skip (.exit 0)) (.seq (.block 1 (.seq (.region r68_15 [] (tO [0, 6, 8, 9, 10])) (.seq (.region r68_17 [] (tO [0, 7, 8, 9, 10])) (.seq (.region r68_19 [] (tO [0, 7, 8, 9, 10, 18])) (.cond (.tmp 18) (.seq (.region r68_22 [] (tO [4])) .ret) .skip))))) (.region r68_23 [] (tO [0, 8, 9, 10])))))
noncomputable def c68_0_7 : MCode := c68_0_7g 
theorem g68_0_7 : c68_0_7.Good Try.prog E68_0 sh68 := ⟨trivial, ⟨⟨trivial, trivial⟩, ⟨⟨trivial, ⟨trivial, ⟨trivial, ⟨⟨trivial, trivial⟩, trivial⟩⟩⟩⟩, trivial⟩⟩⟩
--CODE 7 0
def S68_0_0g (vf73_0 : Tf73_0) (α : Type) (x3 : Int) (x4 : Rows) (x5 x6 : Int) (kn : Int → Option α) (k1 : Int → Option α) (k2 : Int → Bool → Option α) : Option α :=
 cK (decide (x6 < x5))
 (rowK x4 x6 [.int .i64, .int .i64]
 (fun x8 x9 => vf73_0 α x8 x9 x3
 (fun x10 => cK (x10 != 0)
 (k1 x10)
 (kn (w64 (x6 + 1))))))
 (k2 x6 (decide (x6 < x5)))
noncomputable def S68_0_0 (α : Type) (x3 : Int) (x4 : Rows) (x5 x6 : Int) (kn : Int → Option α) (k1 : Int → Option α) (k2 : Int → Bool → Option α) : Option α := S68_0_0g f73_0 α x3 x4 x5 x6 kn k1 k2
noncomputable def R68_0_0 (α : Type) (x3 : Int) (x4 : Rows) (x5 : Int) (k1 : Int → Option α) (k2 : Int → Bool → Option α) : Nat → Int → Option α
 | 0, _ => none
 | n + 1, x6 => S68_0_0 α x3 x4 x5 x6 (R68_0_0 α x3 x4 x5 k1 k2 n) k1 k2
noncomputable def L68_0_0 (α : Type) (x3 : Int) (x4 : Rows) (x5 : Int) (k1 : Int → Option α) (k2 : Int → Bool → Option α) (x6 : Int) : Option α := R68_0_0 α x3 x4 x5 k1 k2 fuel x6
abbrev TL68_0_0 : Type 1 := (α : Type) → Int → Rows → Int → (Int → Option α) → (Int → Bool → Option α) → Int → Option α
def F68_0_0 (v : TL68_0_0) (α : Type) (K : Exit → St → Option α) : Int → Rows → Int → Int → Option α := fun x3 x4 x5 x6 => v α x3 x4 x5 (fun (y1 : Int) => u68_0_1 (K .ret) y1) (fun (y1 : Int) (y2 : Bool) => u68_0_2 (K (.exit 0)) x3 x4 x5 y1 y2) x6
theorem r68_0_0g (vf73_0 : Tf73_0)  (α : Type) (K : Exit → St → Option α) (Kn : St → Option α) (x3 : Int) (x4 : Rows) (x5 x6 : Int) : u68_0_0 (fun σ => runM Try.prog (E68_0g vf73_0) sh68 (c68_0_7g ) (thenK (fun σ => tidyK td68_7 σ Kn) K) σ) x3 x4 x5 x6 = S68_0_0g vf73_0 α x3 x4 x5 x6 (fun x6 => u68_0_0 Kn x3 x4 x5 x6) (fun (y1 : Int) => u68_0_1 (K .ret) y1) (fun (y1 : Int) (y2 : Bool) => u68_0_2 (K (.exit 0)) x3 x4 x5 y1 y2) := by kernel_rfl
theorem r68_0_0 (α : Type) (K : Exit → St → Option α) (Kn : St → Option α) (x3 : Int) (x4 : Rows) (x5 x6 : Int) : u68_0_0 (fun σ => runM Try.prog E68_0 sh68 c68_0_7 (thenK (fun σ => tidyK td68_7 σ Kn) K) σ) x3 x4 x5 x6 = S68_0_0 α x3 x4 x5 x6 (fun x6 => u68_0_0 Kn x3 x4 x5 x6) (fun (y1 : Int) => u68_0_1 (K .ret) y1) (fun (y1 : Int) (y2 : Bool) => u68_0_2 (K (.exit 0)) x3 x4 x5 y1 y2) := r68_0_0g f73_0 α K Kn x3 x4 x5 x6
theorem t68_0_0 (α : Type) (K : Exit → St → Option α) : ∀ (n : Nat) (x3 : Int) (x4 : Rows) (x5 x6 : Int), R68_0_0 α x3 x4 x5 (fun (y1 : Int) => u68_0_1 (K .ret) y1) (fun (y1 : Int) (y2 : Bool) => u68_0_2 (K (.exit 0)) x3 x4 x5 y1 y2) n x6 = u68_0_0 (loopT (runM Try.prog E68_0 sh68 c68_0_7) td68_7 K n) x3 x4 x5 x6 := by
 intro n
 induction n with
 | zero => intros; rfl
 | succ n ih => intro x3 x4 x5 x6; exact (congrArg (fun kn => S68_0_0 α x3 x4 x5 x6 kn (fun (y1 : Int) => u68_0_1 (K .ret) y1) (fun (y1 : Int) (y2 : Bool) => u68_0_2 (K (.exit 0)) x3 x4 x5 y1 y2)) (funext fun x6 => ih x3 x4 x5 x6)).trans (r68_0_0 α K (loopT (runM Try.prog E68_0 sh68 c68_0_7) td68_7 K n) x3 x4 x5 x6).symm
theorem m68_0_0 : ∀ (α : Type) (K : Exit → St → Option α), F68_0_0 L68_0_0 α K = p68_0_0.unc fun σ => loopT (runM Try.prog E68_0 sh68 c68_0_7) td68_7 K fuel σ := fun α K => funext fun x3 => funext fun x4 => funext fun x5 => funext fun x6 => t68_0_0 α K fuel x3 x4 x5 x6
abbrev Tf68_0 : Type 1 := (α : Type) → Int → Rows → (Int → Option α) → Option α
def f68_0g (vL68_0_0 : TL68_0_0) (α : Type) (x1 : Int) (x2 : Rows) (k1 : Int → Option α) : Option α :=
 vL68_0_0 α x1 x2 ((List.length x2 : Nat) : Int)
 (fun x11 => k1 x11)
 (fun x12 x13 => k1 0) 0
noncomputable def f68_0 (α : Type) (x1 : Int) (x2 : Rows) (k1 : Int → Option α) : Option α := f68_0g L68_0_0 α x1 x2 k1
def pa68_0 : PT (List DV) := pA [pV false [(dI .i64)], pV false [dL]]
def Fn68_0 (v : Tf68_0) (α : Type) (k : List RV → Option α) : Int → Rows → Option α := fun x1 x2 => v α x1 x2 (fun (y1 : Int) => ur68_0_0 k y1)
noncomputable def cm68_0g (vL68_0_0 : TL68_0_0) : MCode := (.seq (.region r68_2 [] (tO [0, 1])) (.seq (.seq (.region r68_5 [] (tO [0, 8, 9, 10])) (.block 0 (.loop td68_7 [⟨p68_0_0, F68_0_0 vL68_0_0⟩] c68_0_7))) (.seq (.region r68_25 [] (tO [4])) .ret)))
noncomputable def cm68_0 : MCode := cm68_0g L68_0_0
theorem gm68_0 : cm68_0.Good Try.prog E68_0 sh68 := ⟨trivial, ⟨⟨trivial, ⟨g68_0_7, m68_0_0, trivial⟩⟩, ⟨trivial, trivial⟩⟩⟩
theorem fm68_0g (vf73_0 : Tf73_0) (vL68_0_0 : TL68_0_0) (α : Type) (k : List RV → Option α) : Fn68_0 (f68_0g vL68_0_0) α k = pa68_0.unc fun ds => fnM Try.prog (E68_0g vf73_0) sh68 (cm68_0g vL68_0_0) rs68 k ds := by kernel_rfl
theorem fm68_0 : ∀ (α : Type) (k : List RV → Option α), Fn68_0 f68_0 α k = pa68_0.unc fun ds => fnM Try.prog E68_0 sh68 cm68_0 rs68 k ds := fm68_0g f73_0 L68_0_0
theorem is68 : FnIs Try.prog 68 nt68 tr68 tl68 cm68_0.erase rs68 := ⟨Try.f68, Try.func68, rfl, by kernel_rfl, by kernel_rfl, by kernel_rfl⟩
theorem io68_0 : InstOk Try.prog 68 nt68 ⟨pa68_0, Fn68_0 f68_0⟩ := inst_ok eo68_0 followsTry is68 ⟨⟨sh68, cm68_0, by kernel_rfl, gm68_0, fm68_0⟩⟩
abbrev nt64 : Nat := 19
def sh64 : List (Nat × List Sh) := [(14, [.int .i64]), (15, [.int .i64])]
def r64_2 : List AOper := [oO 4 (.mv (kI 0))]
def r64_5 : List AOper := [oM 6 0, oO 7 (.len (.tmp 6)), oO 8 (.mv (kI 0))]
def td64_7 : Option Tidy := (tO [0, 1, 7, 8])
def r64_9 : List AOper := [oO 9 (.bin .lss 3 (.tmp 8) (.tmp 7))]
def r64_15 : List AOper := [oM 10 8, oM 5 10]
def r64_17 : List AOper := [oM 11 1, oM 12 0, oM 13 5, oO 14 (.iaddr 1 none (.tmp 12) (.tmp 13)), oO 15 (.load false 1 (.tmp 14)), oO 16 (.calld (.tmp 11) [(.tmp 15)])]
def r64_20 : List AOper := [oM 17 5, oM 4 17]
def r64_21 : List AOper := [oO 18 (.bin .add 3 (.tmp 8) (kI 1)), oM 8 18]
def r64_23 : List AOper := [oO 4 (.mv (kI (-1)))]
def tr64 : List (Nat × Tidy) := [tT 0 [0, 1], tT 1 [0, 1, 7, 8], tT 2 [0, 1, 7, 8, 9], tT 3 [0, 1, 5, 7, 8], tT 4 [0, 1, 5, 7, 8, 16], tT 5 [4], tT 6 [0, 1, 7, 8], tT 7 [4]]
def tl64 : List (Nat × Tidy) := [tT 2 [0, 1, 7, 8]]
def rs64 : List AResV := [.tmp 4]
def p64_0_0 : PT St := pS [sl 0 (aV false [(cD dL)]), sl 1 (aV false [(cD (dFn 63 []))]), sl 7 (aV false [(cD (dI .i64))]), sl 8 (aV false [(cD (dI .i64))])] []
def u64_0_0 {β : Type} (g : St → β) : Rows → Int → Int → β := p64_0_0.unc g
def p64_0_1 : PT St := pS [sl 4 (aV false [(cD (dI .i64))])] []
def u64_0_1 {β : Type} (g : St → β) : Int → β := p64_0_1.unc g
def p64_0_2 : PT St := pS [sl 0 (aV false [(cD dL)]), sl 1 (aV false [(cD (dFn 63 []))]), sl 7 (aV false [(cD (dI .i64))]), sl 8 (aV false [(cD (dI .i64))]), sl 9 (aV false [(cD dB)])] []
def u64_0_2 {β : Type} (g : St → β) : Rows → Int → Int → Bool → β := p64_0_2.unc g
def pr64_0_0 : PT (List RV) := pRs [pR false [rD (dI .i64)]]
def ur64_0_0 {β : Type} (g : List RV → β) : Int → β := pr64_0_0.unc g
def E64_0g (vf63_0 : Tf63_0) : EnvK := EnvK.of [⟨63, nt63, [⟨pa63_0, Fn63_0 vf63_0⟩]⟩] noSeq
noncomputable def E64_0 : EnvK := E64_0g f63_0
theorem eo64_0 : E64_0.Ok Try.prog := EnvK.of_ok noSeq_ok ⟨⟨io63_0, trivial⟩, trivial⟩
noncomputable def c64_0_7g  : MCode := (.seq (.region r64_9 [] (tO [0, 1, 7, 8, 9])) (.seq (.cond (.tmp 9) .skip (.exit 0)) (.seq (.block 1 (.seq (.region r64_15 [] (tO [0, 1, 5, 7, 8])) (.seq (.region r64_17 [] (tO [0, 1, 5, 7, 8, 16])) (.cond (.tmp 16) (.seq (.region r64_20 [] (tO [4])) .ret) .skip)))) (.region r64_21 [] (tO [0, 1, 7, 8])))))
noncomputable def c64_0_7 : MCode := c64_0_7g 
theorem g64_0_7 : c64_0_7.Good Try.prog E64_0 sh64 := ⟨trivial, ⟨⟨trivial, trivial⟩, ⟨⟨trivial, ⟨trivial, ⟨⟨trivial, trivial⟩, trivial⟩⟩⟩, trivial⟩⟩⟩
--CODE 7 0
def S64_0_0g (vf63_0 : Tf63_0) (α : Type) (x2 : Rows) (x3 x4 : Int) (kn : Int → Option α) (k1 : Int → Option α) (k2 : Int → Bool → Option α) : Option α :=
 cK (decide (x4 < x3))
 (rowK x2 x4 [.int .i64]
 (fun x6 => vf63_0 α x6
 (fun x7 => cK x7
 (k1 x4)
 (kn (w64 (x4 + 1))))))
 (k2 x4 (decide (x4 < x3)))
noncomputable def S64_0_0 (α : Type) (x2 : Rows) (x3 x4 : Int) (kn : Int → Option α) (k1 : Int → Option α) (k2 : Int → Bool → Option α) : Option α := S64_0_0g f63_0 α x2 x3 x4 kn k1 k2
noncomputable def R64_0_0 (α : Type) (x2 : Rows) (x3 : Int) (k1 : Int → Option α) (k2 : Int → Bool → Option α) : Nat → Int → Option α
 | 0, _ => none
 | n + 1, x4 => S64_0_0 α x2 x3 x4 (R64_0_0 α x2 x3 k1 k2 n) k1 k2
noncomputable def L64_0_0 (α : Type) (x2 : Rows) (x3 : Int) (k1 : Int → Option α) (k2 : Int → Bool → Option α) (x4 : Int) : Option α := R64_0_0 α x2 x3 k1 k2 fuel x4
abbrev TL64_0_0 : Type 1 := (α : Type) → Rows → Int → (Int → Option α) → (Int → Bool → Option α) → Int → Option α
def F64_0_0 (v : TL64_0_0) (α : Type) (K : Exit → St → Option α) : Rows → Int → Int → Option α := fun x2 x3 x4 => v α x2 x3 (fun (y1 : Int) => u64_0_1 (K .ret) y1) (fun (y1 : Int) (y2 : Bool) => u64_0_2 (K (.exit 0)) x2 x3 y1 y2) x4
theorem r64_0_0g (vf63_0 : Tf63_0)  (α : Type) (K : Exit → St → Option α) (Kn : St → Option α) (x2 : Rows) (x3 x4 : Int) : u64_0_0 (fun σ => runM Try.prog (E64_0g vf63_0) sh64 (c64_0_7g ) (thenK (fun σ => tidyK td64_7 σ Kn) K) σ) x2 x3 x4 = S64_0_0g vf63_0 α x2 x3 x4 (fun x4 => u64_0_0 Kn x2 x3 x4) (fun (y1 : Int) => u64_0_1 (K .ret) y1) (fun (y1 : Int) (y2 : Bool) => u64_0_2 (K (.exit 0)) x2 x3 y1 y2) := by kernel_rfl
theorem r64_0_0 (α : Type) (K : Exit → St → Option α) (Kn : St → Option α) (x2 : Rows) (x3 x4 : Int) : u64_0_0 (fun σ => runM Try.prog E64_0 sh64 c64_0_7 (thenK (fun σ => tidyK td64_7 σ Kn) K) σ) x2 x3 x4 = S64_0_0 α x2 x3 x4 (fun x4 => u64_0_0 Kn x2 x3 x4) (fun (y1 : Int) => u64_0_1 (K .ret) y1) (fun (y1 : Int) (y2 : Bool) => u64_0_2 (K (.exit 0)) x2 x3 y1 y2) := r64_0_0g f63_0 α K Kn x2 x3 x4
theorem t64_0_0 (α : Type) (K : Exit → St → Option α) : ∀ (n : Nat) (x2 : Rows) (x3 x4 : Int), R64_0_0 α x2 x3 (fun (y1 : Int) => u64_0_1 (K .ret) y1) (fun (y1 : Int) (y2 : Bool) => u64_0_2 (K (.exit 0)) x2 x3 y1 y2) n x4 = u64_0_0 (loopT (runM Try.prog E64_0 sh64 c64_0_7) td64_7 K n) x2 x3 x4 := by
 intro n
 induction n with
 | zero => intros; rfl
 | succ n ih => intro x2 x3 x4; exact (congrArg (fun kn => S64_0_0 α x2 x3 x4 kn (fun (y1 : Int) => u64_0_1 (K .ret) y1) (fun (y1 : Int) (y2 : Bool) => u64_0_2 (K (.exit 0)) x2 x3 y1 y2)) (funext fun x4 => ih x2 x3 x4)).trans (r64_0_0 α K (loopT (runM Try.prog E64_0 sh64 c64_0_7) td64_7 K n) x2 x3 x4).symm
theorem m64_0_0 : ∀ (α : Type) (K : Exit → St → Option α), F64_0_0 L64_0_0 α K = p64_0_0.unc fun σ => loopT (runM Try.prog E64_0 sh64 c64_0_7) td64_7 K fuel σ := fun α K => funext fun x2 => funext fun x3 => funext fun x4 => t64_0_0 α K fuel x2 x3 x4
abbrev Tf64_0 : Type 1 := (α : Type) → Rows → (Int → Option α) → Option α
def f64_0g (vL64_0_0 : TL64_0_0) (α : Type) (x1 : Rows) (k1 : Int → Option α) : Option α :=
 vL64_0_0 α x1 ((List.length x1 : Nat) : Int)
 (fun x8 => k1 x8)
 (fun x9 x10 => k1 (-1)) 0
noncomputable def f64_0 (α : Type) (x1 : Rows) (k1 : Int → Option α) : Option α := f64_0g L64_0_0 α x1 k1
def pa64_0 : PT (List DV) := pA [pV false [dL], pV false [(dFn 63 [])]]
def Fn64_0 (v : Tf64_0) (α : Type) (k : List RV → Option α) : Rows → Option α := fun x1 => v α x1 (fun (y1 : Int) => ur64_0_0 k y1)
noncomputable def cm64_0g (vL64_0_0 : TL64_0_0) : MCode := (.seq (.region r64_2 [] (tO [0, 1])) (.seq (.seq (.region r64_5 [] (tO [0, 1, 7, 8])) (.block 0 (.loop td64_7 [⟨p64_0_0, F64_0_0 vL64_0_0⟩] c64_0_7))) (.seq (.region r64_23 [] (tO [4])) .ret)))
noncomputable def cm64_0 : MCode := cm64_0g L64_0_0
theorem gm64_0 : cm64_0.Good Try.prog E64_0 sh64 := ⟨trivial, ⟨⟨trivial, ⟨g64_0_7, m64_0_0, trivial⟩⟩, ⟨trivial, trivial⟩⟩⟩
theorem fm64_0g (vf63_0 : Tf63_0) (vL64_0_0 : TL64_0_0) (α : Type) (k : List RV → Option α) : Fn64_0 (f64_0g vL64_0_0) α k = pa64_0.unc fun ds => fnM Try.prog (E64_0g vf63_0) sh64 (cm64_0g vL64_0_0) rs64 k ds := by kernel_rfl
theorem fm64_0 : ∀ (α : Type) (k : List RV → Option α), Fn64_0 f64_0 α k = pa64_0.unc fun ds => fnM Try.prog E64_0 sh64 cm64_0 rs64 k ds := fm64_0g f63_0 L64_0_0
theorem is64 : FnIs Try.prog 64 nt64 tr64 tl64 cm64_0.erase rs64 := ⟨Try.f64, Try.func64, rfl, by kernel_rfl, by kernel_rfl, by kernel_rfl⟩
theorem io64_0 : InstOk Try.prog 64 nt64 ⟨pa64_0, Fn64_0 f64_0⟩ := inst_ok eo64_0 followsTry is64 ⟨⟨sh64, cm64_0, by kernel_rfl, gm64_0, fm64_0⟩⟩
def p64_1_0 : PT St := pS [sl 0 (aV false [(cD dL)]), sl 1 (aV false [(cD (dFn 34 []))]), sl 7 (aV false [(cD (dI .i64))]), sl 8 (aV false [(cD (dI .i64))])] []
def u64_1_0 {β : Type} (g : St → β) : Rows → Int → Int → β := p64_1_0.unc g
def p64_1_1 : PT St := pS [sl 4 (aV false [(cD (dI .i64))])] []
def u64_1_1 {β : Type} (g : St → β) : Int → β := p64_1_1.unc g
def p64_1_2 : PT St := pS [sl 0 (aV false [(cD dL)]), sl 1 (aV false [(cD (dFn 34 []))]), sl 7 (aV false [(cD (dI .i64))]), sl 8 (aV false [(cD (dI .i64))]), sl 9 (aV false [(cD dB)])] []
def u64_1_2 {β : Type} (g : St → β) : Rows → Int → Int → Bool → β := p64_1_2.unc g
def pr64_1_0 : PT (List RV) := pRs [pR false [rD (dI .i64)]]
def ur64_1_0 {β : Type} (g : List RV → β) : Int → β := pr64_1_0.unc g
def E64_1g (vf34_0 : Tf34_0) : EnvK := EnvK.of [⟨34, nt34, [⟨pa34_0, Fn34_0 vf34_0⟩]⟩] noSeq
noncomputable def E64_1 : EnvK := E64_1g f34_0
theorem eo64_1 : E64_1.Ok Try.prog := EnvK.of_ok noSeq_ok ⟨⟨io34_0, trivial⟩, trivial⟩
noncomputable def c64_1_7g  : MCode := (.seq (.region r64_9 [] (tO [0, 1, 7, 8, 9])) (.seq (.cond (.tmp 9) .skip (.exit 0)) (.seq (.block 1 (.seq (.region r64_15 [] (tO [0, 1, 5, 7, 8])) (.seq (.region r64_17 [] (tO [0, 1, 5, 7, 8, 16])) (.cond (.tmp 16) (.seq (.region r64_20 [] (tO [4])) .ret) .skip)))) (.region r64_21 [] (tO [0, 1, 7, 8])))))
noncomputable def c64_1_7 : MCode := c64_1_7g 
theorem g64_1_7 : c64_1_7.Good Try.prog E64_1 sh64 := ⟨trivial, ⟨⟨trivial, trivial⟩, ⟨⟨trivial, ⟨trivial, ⟨⟨trivial, trivial⟩, trivial⟩⟩⟩, trivial⟩⟩⟩
--CODE 7 0
def S64_1_0g (vf34_0 : Tf34_0) (α : Type) (x2 : Rows) (x3 x4 : Int) (kn : Int → Option α) (k1 : Int → Option α) (k2 : Int → Bool → Option α) : Option α :=
 cK (decide (x4 < x3))
 (rowK x2 x4 [.int .i64]
 (fun x6 => vf34_0 α x6
 (fun x7 => cK x7
 (k1 x4)
 (kn (w64 (x4 + 1))))))
 (k2 x4 (decide (x4 < x3)))
noncomputable def S64_1_0 (α : Type) (x2 : Rows) (x3 x4 : Int) (kn : Int → Option α) (k1 : Int → Option α) (k2 : Int → Bool → Option α) : Option α := S64_1_0g f34_0 α x2 x3 x4 kn k1 k2
noncomputable def R64_1_0 (α : Type) (x2 : Rows) (x3 : Int) (k1 : Int → Option α) (k2 : Int → Bool → Option α) : Nat → Int → Option α
 | 0, _ => none
 | n + 1, x4 => S64_1_0 α x2 x3 x4 (R64_1_0 α x2 x3 k1 k2 n) k1 k2
noncomputable def L64_1_0 (α : Type) (x2 : Rows) (x3 : Int) (k1 : Int → Option α) (k2 : Int → Bool → Option α) (x4 : Int) : Option α := R64_1_0 α x2 x3 k1 k2 fuel x4
abbrev TL64_1_0 : Type 1 := (α : Type) → Rows → Int → (Int → Option α) → (Int → Bool → Option α) → Int → Option α
def F64_1_0 (v : TL64_1_0) (α : Type) (K : Exit → St → Option α) : Rows → Int → Int → Option α := fun x2 x3 x4 => v α x2 x3 (fun (y1 : Int) => u64_1_1 (K .ret) y1) (fun (y1 : Int) (y2 : Bool) => u64_1_2 (K (.exit 0)) x2 x3 y1 y2) x4
theorem r64_1_0g (vf34_0 : Tf34_0)  (α : Type) (K : Exit → St → Option α) (Kn : St → Option α) (x2 : Rows) (x3 x4 : Int) : u64_1_0 (fun σ => runM Try.prog (E64_1g vf34_0) sh64 (c64_1_7g ) (thenK (fun σ => tidyK td64_7 σ Kn) K) σ) x2 x3 x4 = S64_1_0g vf34_0 α x2 x3 x4 (fun x4 => u64_1_0 Kn x2 x3 x4) (fun (y1 : Int) => u64_1_1 (K .ret) y1) (fun (y1 : Int) (y2 : Bool) => u64_1_2 (K (.exit 0)) x2 x3 y1 y2) := by kernel_rfl
theorem r64_1_0 (α : Type) (K : Exit → St → Option α) (Kn : St → Option α) (x2 : Rows) (x3 x4 : Int) : u64_1_0 (fun σ => runM Try.prog E64_1 sh64 c64_1_7 (thenK (fun σ => tidyK td64_7 σ Kn) K) σ) x2 x3 x4 = S64_1_0 α x2 x3 x4 (fun x4 => u64_1_0 Kn x2 x3 x4) (fun (y1 : Int) => u64_1_1 (K .ret) y1) (fun (y1 : Int) (y2 : Bool) => u64_1_2 (K (.exit 0)) x2 x3 y1 y2) := r64_1_0g f34_0 α K Kn x2 x3 x4
theorem t64_1_0 (α : Type) (K : Exit → St → Option α) : ∀ (n : Nat) (x2 : Rows) (x3 x4 : Int), R64_1_0 α x2 x3 (fun (y1 : Int) => u64_1_1 (K .ret) y1) (fun (y1 : Int) (y2 : Bool) => u64_1_2 (K (.exit 0)) x2 x3 y1 y2) n x4 = u64_1_0 (loopT (runM Try.prog E64_1 sh64 c64_1_7) td64_7 K n) x2 x3 x4 := by
 intro n
 induction n with
 | zero => intros; rfl
 | succ n ih => intro x2 x3 x4; exact (congrArg (fun kn => S64_1_0 α x2 x3 x4 kn (fun (y1 : Int) => u64_1_1 (K .ret) y1) (fun (y1 : Int) (y2 : Bool) => u64_1_2 (K (.exit 0)) x2 x3 y1 y2)) (funext fun x4 => ih x2 x3 x4)).trans (r64_1_0 α K (loopT (runM Try.prog E64_1 sh64 c64_1_7) td64_7 K n) x2 x3 x4).symm
theorem m64_1_0 : ∀ (α : Type) (K : Exit → St → Option α), F64_1_0 L64_1_0 α K = p64_1_0.unc fun σ => loopT (runM Try.prog E64_1 sh64 c64_1_7) td64_7 K fuel σ := fun α K => funext fun x2 => funext fun x3 => funext fun x4 => t64_1_0 α K fuel x2 x3 x4
abbrev Tf64_1 : Type 1 := (α : Type) → Rows → (Int → Option α) → Option α
def f64_1g (vL64_1_0 : TL64_1_0) (α : Type) (x1 : Rows) (k1 : Int → Option α) : Option α :=
 vL64_1_0 α x1 ((List.length x1 : Nat) : Int)
 (fun x8 => k1 x8)
 (fun x9 x10 => k1 (-1)) 0
noncomputable def f64_1 (α : Type) (x1 : Rows) (k1 : Int → Option α) : Option α := f64_1g L64_1_0 α x1 k1
def pa64_1 : PT (List DV) := pA [pV false [dL], pV false [(dFn 34 [])]]
def Fn64_1 (v : Tf64_1) (α : Type) (k : List RV → Option α) : Rows → Option α := fun x1 => v α x1 (fun (y1 : Int) => ur64_1_0 k y1)
noncomputable def cm64_1g (vL64_1_0 : TL64_1_0) : MCode := (.seq (.region r64_2 [] (tO [0, 1])) (.seq (.seq (.region r64_5 [] (tO [0, 1, 7, 8])) (.block 0 (.loop td64_7 [⟨p64_1_0, F64_1_0 vL64_1_0⟩] c64_1_7))) (.seq (.region r64_23 [] (tO [4])) .ret)))
noncomputable def cm64_1 : MCode := cm64_1g L64_1_0
theorem gm64_1 : cm64_1.Good Try.prog E64_1 sh64 := ⟨trivial, ⟨⟨trivial, ⟨g64_1_7, m64_1_0, trivial⟩⟩, ⟨trivial, trivial⟩⟩⟩
theorem fm64_1g (vf34_0 : Tf34_0) (vL64_1_0 : TL64_1_0) (α : Type) (k : List RV → Option α) : Fn64_1 (f64_1g vL64_1_0) α k = pa64_1.unc fun ds => fnM Try.prog (E64_1g vf34_0) sh64 (cm64_1g vL64_1_0) rs64 k ds := by kernel_rfl
theorem fm64_1 : ∀ (α : Type) (k : List RV → Option α), Fn64_1 f64_1 α k = pa64_1.unc fun ds => fnM Try.prog E64_1 sh64 cm64_1 rs64 k ds := fm64_1g f34_0 L64_1_0
theorem io64_1 : InstOk Try.prog 64 nt64 ⟨pa64_1, Fn64_1 f64_1⟩ := inst_ok eo64_1 followsTry is64 ⟨⟨sh64, cm64_1, by kernel_rfl, gm64_1, fm64_1⟩⟩
abbrev nt42 : Nat := 11
def sh42 : List (Nat × List Sh) := [(4, [.int .i64, .int .i64]), (6, [.int .i64, .int .i64]), (8, [.int .i64, .int .i64])]
def r42_2 : List AOper := [oO 1 (.box (.tmp 0)), oO 2 (.mv (kI 0))]
def r42_4 : List AOper := [oO 3 (.faddr 0 (.tmp 1)), oO 4 (.load true 2 (.tmp 3)), oO 5 (.faddr 2 (.tmp 1)), oO 6 (.load true 2 (.tmp 5)), oO 7 (.faddr 4 (.tmp 1)), oO 8 (.load true 2 (.tmp 7)), oO 9 (.bslice 2 3 [(.v (.int .i64 0)), (.v (.int .i64 0))] [(0, (.tmp 4)), (1, (.tmp 6)), (2, (.tmp 8))]), oO 10 (.call 68 [(kI 10000000), (.tmp 9)]), oM 2 10]
def tr42 : List (Nat × Tidy) := [tT 0 [1], tT 1 [2]]
def tl42 : List (Nat × Tidy) := []
def rs42 : List AResV := [.tmp 2]
def pr42_0_0 : PT (List RV) := pRs [pR false [rD (dI .i64)]]
def ur42_0_0 {β : Type} (g : List RV → β) : Int → β := pr42_0_0.unc g
def E42_0g (vf68_0 : Tf68_0) : EnvK := EnvK.of [⟨68, nt68, [⟨pa68_0, Fn68_0 vf68_0⟩]⟩] noSeq
noncomputable def E42_0 : EnvK := E42_0g f68_0
theorem eo42_0 : E42_0.Ok Try.prog := EnvK.of_ok noSeq_ok ⟨⟨io68_0, trivial⟩, trivial⟩
abbrev Tf42_0 : Type 1 := (α : Type) → Int → Int → Int → Int → Int → Int → (Int → Option α) → Option α
def f42_0g (vf68_0 : Tf68_0) (α : Type) (x1 x2 x3 x4 x5 x6 : Int) (k1 : Int → Option α) : Option α :=
 vf68_0 α 10000000 [[DC.v (.int .i64 x1), DC.v (.int .i64 x2)], [DC.v (.int .i64 x3), DC.v (.int .i64 x4)], [DC.v (.int .i64 x5), DC.v (.int .i64 x6)]]
 (fun x7 => k1 x7)
noncomputable def f42_0 (α : Type) (x1 x2 x3 x4 x5 x6 : Int) (k1 : Int → Option α) : Option α := f42_0g f68_0 α x1 x2 x3 x4 x5 x6 k1
def pa42_0 : PT (List DV) := pA [pV true [(dI .i64), (dI .i64), (dI .i64), (dI .i64), (dI .i64), (dI .i64)]]
def Fn42_0 (v : Tf42_0) (α : Type) (k : List RV → Option α) : Int → Int → Int → Int → Int → Int → Option α := fun x1 x2 x3 x4 x5 x6 => v α x1 x2 x3 x4 x5 x6 (fun (y1 : Int) => ur42_0_0 k y1)
noncomputable def cm42_0g  : MCode := (.seq (.region r42_2 [] (tO [1])) (.seq (.region r42_4 [] (tO [2])) .ret))
noncomputable def cm42_0 : MCode := cm42_0g 
theorem gm42_0 : cm42_0.Good Try.prog E42_0 sh42 := ⟨trivial, ⟨trivial, trivial⟩⟩
theorem fm42_0g (vf68_0 : Tf68_0)  (α : Type) (k : List RV → Option α) : Fn42_0 (f42_0g vf68_0) α k = pa42_0.unc fun ds => fnM Try.prog (E42_0g vf68_0) sh42 (cm42_0g ) rs42 k ds := by kernel_rfl
theorem fm42_0 : ∀ (α : Type) (k : List RV → Option α), Fn42_0 f42_0 α k = pa42_0.unc fun ds => fnM Try.prog E42_0 sh42 cm42_0 rs42 k ds := fm42_0g f68_0
theorem is42 : FnIs Try.prog 42 nt42 tr42 tl42 cm42_0.erase rs42 := ⟨Try.f42, Try.func42, rfl, by kernel_rfl, by kernel_rfl, by kernel_rfl⟩
theorem io42_0 : InstOk Try.prog 42 nt42 ⟨pa42_0, Fn42_0 f42_0⟩ := inst_ok eo42_0 followsTry is42 ⟨⟨sh42, cm42_0, by kernel_rfl, gm42_0, fm42_0⟩⟩
abbrev nt54 : Nat := 22
def sh54 : List (Nat × List Sh) := [(5, [.str]), (7, [.int .i64]), (9, [.int .i64, .int .i64]), (15, [.int .i64, .int .i64]), (17, [.int .i64, .int .i64]), (19, [.int .i64, .int .i64])]
def r54_2 : List AOper := [oO 1 (.box (.tmp 0)), oO 2 (.mv (kI 0))]
def r54_5 : List AOper := [oO 4 (.faddr 0 (.tmp 1)), oO 5 (.load false 1 (.tmp 4)), oO 6 (.faddr 1 (.tmp 1)), oO 7 (.load false 1 (.tmp 6)), oO 8 (.faddr 2 (.tmp 1)), oO 9 (.load true 2 (.tmp 8)), oO 10 (.call 41 [(.tmp 5), (.tmp 7), (.tmp 9)]), oM 3 10]
def r54_7 : List AOper := [oM 11 3, oO 12 (.bin .neq 30 (.tmp 11) (kI 0))]
def r54_10 : List AOper := [oM 13 3, oM 2 13]
def r54_12 : List AOper := [oO 14 (.faddr 4 (.tmp 1)), oO 15 (.load true 2 (.tmp 14)), oO 16 (.faddr 6 (.tmp 1)), oO 17 (.load true 2 (.tmp 16)), oO 18 (.faddr 8 (.tmp 1)), oO 19 (.load true 2 (.tmp 18)), oO 20 (.bslice 2 3 [(.v (.int .i64 0)), (.v (.int .i64 0))] [(0, (.tmp 15)), (1, (.tmp 17)), (2, (.tmp 19))]), oO 21 (.call 68 [(kI 1048576), (.tmp 20)]), oM 2 21]
def tr54 : List (Nat × Tidy) := [tT 0 [1], tT 1 [1, 3], tT 2 [1, 3, 12], tT 3 [2], tT 4 [2]]
def tl54 : List (Nat × Tidy) := []
def rs54 : List AResV := [.tmp 2]
def pr54_0_0 : PT (List RV) := pRs [pR false [rD (dI .i64)]]
def ur54_0_0 {β : Type} (g : List RV → β) : Int → β := pr54_0_0.unc g
def E54_0g (vf41_0 : Tf41_0) (vf68_0 : Tf68_0) : EnvK := EnvK.of [⟨41, nt41, [⟨pa41_0, Fn41_0 vf41_0⟩]⟩, ⟨68, nt68, [⟨pa68_0, Fn68_0 vf68_0⟩]⟩] noSeq
noncomputable def E54_0 : EnvK := E54_0g f41_0 f68_0
theorem eo54_0 : E54_0.Ok Try.prog := EnvK.of_ok noSeq_ok ⟨⟨io41_0, trivial⟩, ⟨io68_0, trivial⟩, trivial⟩
abbrev Tf54_0 : Type 1 := (α : Type) → ByteArray → Int → Int → Int → Int → Int → Int → Int → Int → Int → (Int → Option α) → Option α
def f54_0g (vf41_0 : Tf41_0) (vf68_0 : Tf68_0) (α : Type) (x1 : ByteArray) (x2 x3 x4 x5 x6 x7 x8 x9 x10 : Int) (k1 : Int → Option α) : Option α :=
 vf41_0 α x1 x2 x3 x4
 (fun x11 => cK (x11 != 0)
 (k1 x11)
 (vf68_0 α 1048576 [[DC.v (.int .i64 x5), DC.v (.int .i64 x6)], [DC.v (.int .i64 x7), DC.v (.int .i64 x8)], [DC.v (.int .i64 x9), DC.v (.int .i64 x10)]]
 (fun x12 => k1 x12)))
noncomputable def f54_0 (α : Type) (x1 : ByteArray) (x2 x3 x4 x5 x6 x7 x8 x9 x10 : Int) (k1 : Int → Option α) : Option α := f54_0g f41_0 f68_0 α x1 x2 x3 x4 x5 x6 x7 x8 x9 x10 k1
def pa54_0 : PT (List DV) := pA [pV true [dS, (dI .i64), (dI .i64), (dI .i64), (dI .i64), (dI .i64), (dI .i64), (dI .i64), (dI .i64), (dI .i64)]]
def Fn54_0 (v : Tf54_0) (α : Type) (k : List RV → Option α) : ByteArray → Int → Int → Int → Int → Int → Int → Int → Int → Int → Option α := fun x1 x2 x3 x4 x5 x6 x7 x8 x9 x10 => v α x1 x2 x3 x4 x5 x6 x7 x8 x9 x10 (fun (y1 : Int) => ur54_0_0 k y1)
noncomputable def cm54_0g  : MCode := (.seq (.region r54_2 [] (tO [1])) (.seq (.seq (.region r54_5 [] (tO [1, 3])) (.seq (.region r54_7 [] (tO [1, 3, 12])) (.cond (.tmp 12) (.seq (.region r54_10 [] (tO [2])) .ret) .skip))) (.seq (.region r54_12 [] (tO [2])) .ret)))
noncomputable def cm54_0 : MCode := cm54_0g 
theorem gm54_0 : cm54_0.Good Try.prog E54_0 sh54 := ⟨trivial, ⟨⟨trivial, ⟨trivial, ⟨⟨trivial, trivial⟩, trivial⟩⟩⟩, ⟨trivial, trivial⟩⟩⟩
theorem fm54_0g (vf41_0 : Tf41_0) (vf68_0 : Tf68_0)  (α : Type) (k : List RV → Option α) : Fn54_0 (f54_0g vf41_0 vf68_0) α k = pa54_0.unc fun ds => fnM Try.prog (E54_0g vf41_0 vf68_0) sh54 (cm54_0g ) rs54 k ds := by kernel_rfl
theorem fm54_0 : ∀ (α : Type) (k : List RV → Option α), Fn54_0 f54_0 α k = pa54_0.unc fun ds => fnM Try.prog E54_0 sh54 cm54_0 rs54 k ds := fm54_0g f41_0 f68_0
theorem is54 : FnIs Try.prog 54 nt54 tr54 tl54 cm54_0.erase rs54 := ⟨Try.f54, Try.func54, rfl, by kernel_rfl, by kernel_rfl, by kernel_rfl⟩
theorem io54_0 : InstOk Try.prog 54 nt54 ⟨pa54_0, Fn54_0 f54_0⟩ := inst_ok eo54_0 followsTry is54 ⟨⟨sh54, cm54_0, by kernel_rfl, gm54_0, fm54_0⟩⟩
abbrev nt33 : Nat := 9
def sh33 : List (Nat × List Sh) := []
def r33_2 : List AOper := [oO 4 (.mv (.const (.bool false)))]
def r33_4 : List AOper := [oM 5 0, oM 6 1, oO 7 (.call 64 [(.tmp 5), (.tmp 6)]), oO 8 (.bin .geq 3 (.tmp 7) (kI 0)), oM 4 8]
def tr33 : List (Nat × Tidy) := [tT 0 [0, 1], tT 1 [4]]
def tl33 : List (Nat × Tidy) := []
def rs33 : List AResV := [.tmp 4]
def pr33_0_0 : PT (List RV) := pRs [pR false [rD dB]]
def ur33_0_0 {β : Type} (g : List RV → β) : Bool → β := pr33_0_0.unc g
def E33_0g (vf64_0 : Tf64_0) : EnvK := EnvK.of [⟨64, nt64, [⟨pa64_0, Fn64_0 vf64_0⟩]⟩] noSeq
noncomputable def E33_0 : EnvK := E33_0g f64_0
theorem eo33_0 : E33_0.Ok Try.prog := EnvK.of_ok noSeq_ok ⟨⟨io64_0, trivial⟩, trivial⟩
abbrev Tf33_0 : Type 1 := (α : Type) → Rows → (Bool → Option α) → Option α
def f33_0g (vf64_0 : Tf64_0) (α : Type) (x1 : Rows) (k1 : Bool → Option α) : Option α :=
 vf64_0 α x1
 (fun x2 => k1 (decide (0 ≤ x2)))
noncomputable def f33_0 (α : Type) (x1 : Rows) (k1 : Bool → Option α) : Option α := f33_0g f64_0 α x1 k1
def pa33_0 : PT (List DV) := pA [pV false [dL], pV false [(dFn 63 [])]]
def Fn33_0 (v : Tf33_0) (α : Type) (k : List RV → Option α) : Rows → Option α := fun x1 => v α x1 (fun (y1 : Bool) => ur33_0_0 k y1)
noncomputable def cm33_0g  : MCode := (.seq (.region r33_2 [] (tO [0, 1])) (.seq (.region r33_4 [] (tO [4])) .ret))
noncomputable def cm33_0 : MCode := cm33_0g 
theorem gm33_0 : cm33_0.Good Try.prog E33_0 sh33 := ⟨trivial, ⟨trivial, trivial⟩⟩
theorem fm33_0g (vf64_0 : Tf64_0)  (α : Type) (k : List RV → Option α) : Fn33_0 (f33_0g vf64_0) α k = pa33_0.unc fun ds => fnM Try.prog (E33_0g vf64_0) sh33 (cm33_0g ) rs33 k ds := by kernel_rfl
theorem fm33_0 : ∀ (α : Type) (k : List RV → Option α), Fn33_0 f33_0 α k = pa33_0.unc fun ds => fnM Try.prog E33_0 sh33 cm33_0 rs33 k ds := fm33_0g f64_0
theorem is33 : FnIs Try.prog 33 nt33 tr33 tl33 cm33_0.erase rs33 := ⟨Try.f33, Try.func33, rfl, by kernel_rfl, by kernel_rfl, by kernel_rfl⟩
theorem io33_0 : InstOk Try.prog 33 nt33 ⟨pa33_0, Fn33_0 f33_0⟩ := inst_ok eo33_0 followsTry is33 ⟨⟨sh33, cm33_0, by kernel_rfl, gm33_0, fm33_0⟩⟩
def pr33_1_0 : PT (List RV) := pRs [pR false [rD dB]]
def ur33_1_0 {β : Type} (g : List RV → β) : Bool → β := pr33_1_0.unc g
def E33_1g (vf64_1 : Tf64_1) : EnvK := EnvK.of [⟨64, nt64, [⟨pa64_1, Fn64_1 vf64_1⟩]⟩] noSeq
noncomputable def E33_1 : EnvK := E33_1g f64_1
theorem eo33_1 : E33_1.Ok Try.prog := EnvK.of_ok noSeq_ok ⟨⟨io64_1, trivial⟩, trivial⟩
abbrev Tf33_1 : Type 1 := (α : Type) → Rows → (Bool → Option α) → Option α
def f33_1g (vf64_1 : Tf64_1) (α : Type) (x1 : Rows) (k1 : Bool → Option α) : Option α :=
 vf64_1 α x1
 (fun x2 => k1 (decide (0 ≤ x2)))
noncomputable def f33_1 (α : Type) (x1 : Rows) (k1 : Bool → Option α) : Option α := f33_1g f64_1 α x1 k1
def pa33_1 : PT (List DV) := pA [pV false [dL], pV false [(dFn 34 [])]]
def Fn33_1 (v : Tf33_1) (α : Type) (k : List RV → Option α) : Rows → Option α := fun x1 => v α x1 (fun (y1 : Bool) => ur33_1_0 k y1)
noncomputable def cm33_1g  : MCode := (.seq (.region r33_2 [] (tO [0, 1])) (.seq (.region r33_4 [] (tO [4])) .ret))
noncomputable def cm33_1 : MCode := cm33_1g 
theorem gm33_1 : cm33_1.Good Try.prog E33_1 sh33 := ⟨trivial, ⟨trivial, trivial⟩⟩
theorem fm33_1g (vf64_1 : Tf64_1)  (α : Type) (k : List RV → Option α) : Fn33_1 (f33_1g vf64_1) α k = pa33_1.unc fun ds => fnM Try.prog (E33_1g vf64_1) sh33 (cm33_1g ) rs33 k ds := by kernel_rfl
theorem fm33_1 : ∀ (α : Type) (k : List RV → Option α), Fn33_1 f33_1 α k = pa33_1.unc fun ds => fnM Try.prog E33_1 sh33 cm33_1 rs33 k ds := fm33_1g f64_1
theorem io33_1 : InstOk Try.prog 33 nt33 ⟨pa33_1, Fn33_1 f33_1⟩ := inst_ok eo33_1 followsTry is33 ⟨⟨sh33, cm33_1, by kernel_rfl, gm33_1, fm33_1⟩⟩
abbrev nt31 : Nat := 12
def sh31 : List (Nat × List Sh) := [(4, [.int .i64])]
def r31_2 : List AOper := [oO 1 (.box (.tmp 0)), oO 2 (.mv (kI 0))]
def r31_5 : List AOper := [oO 3 (.faddr 9 (.tmp 1)), oO 4 (.load false 1 (.tmp 3)), oO 5 (.call 62 [(.tmp 4), (kI 1), (kI 1000)]), oO 6 (.pure (oB (.unOp .not 4 (.tmp 5)) 4)), oM 7 6, oG 8 (.faddr 0 (.tmp 1)) 7 false, oG 9 (.aslice 1 9 (.tmp 8)) 7 false, oG 10 (.call 33 [(.tmp 9), (.func 63)]) 7 false, oO 11 (.pick (.tmp 7) (.const (.bool true)) (.tmp 10))]
def r31_8 : List AOper := [oO 2 (.mv (kI 2))]
def r31_10 : List AOper := [oO 2 (.mv (kI 0))]
def tr31 : List (Nat × Tidy) := [(0, ⟨[1], true, [], [1]⟩), tT 1 [11], tT 2 [2], tT 3 [2]]
def tl31 : List (Nat × Tidy) := []
def rs31 : List AResV := [.tmp 2]
def pr31_0_0 : PT (List RV) := pRs [pR false [rD (dI .i64)]]
def ur31_0_0 {β : Type} (g : List RV → β) : Int → β := pr31_0_0.unc g
def E31_0g (vf62_0 : Tf62_0) (vf33_0 : Tf33_0) : EnvK := EnvK.of [⟨62, nt62, [⟨pa62_0, Fn62_0 vf62_0⟩]⟩, ⟨33, nt33, [⟨pa33_0, Fn33_0 vf33_0⟩]⟩] noSeq
noncomputable def E31_0 : EnvK := E31_0g f62_0 f33_0
theorem eo31_0 : E31_0.Ok Try.prog := EnvK.of_ok noSeq_ok ⟨⟨io62_0, trivial⟩, ⟨io33_0, trivial⟩, trivial⟩
abbrev Tf31_0 : Type 1 := (α : Type) → Int → Int → Int → Int → Int → Int → Int → Int → Int → Int → (Int → Option α) → Option α
def f31_0g (vf33_0 : Tf33_0) (vf62_0 : Tf62_0) (α : Type) (x1 x2 x3 x4 x5 x6 x7 x8 x9 x10 : Int) (k1 : Int → Option α) : Option α :=
 vf62_0 α x10 1 1000
 (fun x11 => cK (!x11)
 (k1 2)
 (vf33_0 α [[DC.v (.int .i64 x1)], [DC.v (.int .i64 x2)], [DC.v (.int .i64 x3)], [DC.v (.int .i64 x4)], [DC.v (.int .i64 x5)], [DC.v (.int .i64 x6)], [DC.v (.int .i64 x7)], [DC.v (.int .i64 x8)], [DC.v (.int .i64 x9)]]
 (fun x12 => cK x12
 (k1 2)
 (k1 0))))
noncomputable def f31_0 (α : Type) (x1 x2 x3 x4 x5 x6 x7 x8 x9 x10 : Int) (k1 : Int → Option α) : Option α := f31_0g f33_0 f62_0 α x1 x2 x3 x4 x5 x6 x7 x8 x9 x10 k1
def pa31_0 : PT (List DV) := pA [pV true [(dI .i64), (dI .i64), (dI .i64), (dI .i64), (dI .i64), (dI .i64), (dI .i64), (dI .i64), (dI .i64), (dI .i64)]]
def Fn31_0 (v : Tf31_0) (α : Type) (k : List RV → Option α) : Int → Int → Int → Int → Int → Int → Int → Int → Int → Int → Option α := fun x1 x2 x3 x4 x5 x6 x7 x8 x9 x10 => v α x1 x2 x3 x4 x5 x6 x7 x8 x9 x10 (fun (y1 : Int) => ur31_0_0 k y1)
noncomputable def cm31_0g  : MCode := (.seq (.region r31_2 [] (some ⟨[1], true, [], [1]⟩)) (.seq (.seq (.region r31_5 [] (tO [11])) (.cond (.tmp 11) (.seq (.region r31_8 [] (tO [2])) .ret) .skip)) (.seq (.region r31_10 [] (tO [2])) .ret)))
noncomputable def cm31_0 : MCode := cm31_0g 
theorem gm31_0 : cm31_0.Good Try.prog E31_0 sh31 := ⟨trivial, ⟨⟨trivial, ⟨⟨trivial, trivial⟩, trivial⟩⟩, ⟨trivial, trivial⟩⟩⟩
theorem fm31_0g (vf62_0 : Tf62_0) (vf33_0 : Tf33_0)  (α : Type) (k : List RV → Option α) : Fn31_0 (f31_0g vf33_0 vf62_0) α k = pa31_0.unc fun ds => fnM Try.prog (E31_0g vf62_0 vf33_0) sh31 (cm31_0g ) rs31 k ds := by kernel_rfl
theorem fm31_0 : ∀ (α : Type) (k : List RV → Option α), Fn31_0 f31_0 α k = pa31_0.unc fun ds => fnM Try.prog E31_0 sh31 cm31_0 rs31 k ds := fm31_0g f62_0 f33_0
theorem is31 : FnIs Try.prog 31 nt31 tr31 tl31 cm31_0.erase rs31 := ⟨Try.f31, Try.func31, rfl, by kernel_rfl, by kernel_rfl, by kernel_rfl⟩
theorem io31_0 : InstOk Try.prog 31 nt31 ⟨pa31_0, Fn31_0 f31_0⟩ := inst_ok eo31_0 followsTry is31 ⟨⟨sh31, cm31_0, by kernel_rfl, gm31_0, fm31_0⟩⟩
abbrev nt20 : Nat := 39
def sh20 : List (Nat × List Sh) := [(9, [.str, .int .i64, .int .i64, .int .i64, .int .i64, .int .i64, .int .i64, .int .i64, .int .i64, .int .i64]), (19, [.int .i64]), (22, [.int .i64]), (27, [.int .i64]), (30, [.int .i64]), (33, [.bool]), (38, [.int .i64, .int .i64])]
def r20_2 : List AOper := [oO 1 (.box (.tmp 0)), oO 2 (.alloc [(cI 0), (cI 0)]), oO 3 (.mv (kI 0))]
def r20_5 : List AOper := [oO 9 (.load true 10 (.tmp 1)), oO 10 (.call 54 [(.tmp 9)]), oM 4 10]
def r20_7 : List AOper := [oM 11 4, oO 12 (.bin .neq 30 (.tmp 11) (kI 0))]
def r20_10 : List AOper := [oO 13 (.build [(cI 0), (cI 0)] []), oM 14 4, oD (.store 2 (.tmp 2) (.tmp 13)), oM 3 14]
def r20_12 : List AOper := [oO 15 (.build [(cI 0), (cI 0)] [(0, 1, (kI 0)), (1, 1, (kI 1024))]), oO 5 (.alloc [(cI 0), (cI 0)]), oD (.store 2 (.tmp 5) (.tmp 15))]
def r20_14 : List AOper := [oO 6 (.alloc [(.d (.v (.bool false)))]), oD (.store 1 (.tmp 6) (.const (.bool false)))]
def td20_17 : Option Tidy := (tO [1, 2, 3, 5, 6])
def r20_19 : List AOper := [oM 7 16]
def r20_20 : List AOper := [oO 8 (.alloc [(cI 0), (cI 0)]), oD (.store 2 (.tmp 8) (.tmp 17))]
def r20_24 : List AOper := [oO 18 (.faddr 0 (.tmp 8)), oO 19 (.load false 1 (.tmp 18)), oO 20 (.faddr 4 (.tmp 1)), oO 21 (.faddr 1 (.tmp 20)), oO 22 (.load false 1 (.tmp 21)), oO 23 (.bin .geq 3 (.tmp 19) (.tmp 22))]
def r20_26 : List AOper := [oM 24 7, oO 25 (.faddr 0 (.tmp 5)), oD (.store 1 (.tmp 25) (.tmp 24))]
def r20_28 : List AOper := [oO 26 (.faddr 1 (.tmp 8)), oO 27 (.load false 1 (.tmp 26)), oO 28 (.faddr 4 (.tmp 1)), oO 29 (.faddr 0 (.tmp 28)), oO 30 (.load false 1 (.tmp 29)), oO 31 (.bin .leq 3 (.tmp 27) (.tmp 30)), oM 32 31, oG 33 (.load false 1 (.tmp 6)) 32 true, oG 34 (.pure (oB (.unOp .not 4 (.tmp 33)) 4)) 32 true, oO 35 (.pick (.tmp 32) (.tmp 34) (.const (.bool false)))]
def r20_30 : List AOper := [oM 36 7, oO 37 (.faddr 1 (.tmp 5)), oD (.store 1 (.tmp 37) (.tmp 36)), oD (.store 1 (.tmp 6) (.const (.bool true)))]
def r20_32 : List AOper := [oO 38 (.load true 2 (.tmp 5)), oD (.store 2 (.tmp 2) (.tmp 38)), oO 3 (.mv (kI 0))]
def tr20 : List (Nat × Tidy) := [tT 0 [1, 2, 3], tT 1 [1, 2, 3, 4], tT 2 [1, 2, 3, 4, 12], tT 3 [2, 3], tT 4 [1, 2, 3, 5], tT 5 [1, 2, 3, 5, 6], tT 6 [1, 2, 3, 5, 6, 7, 17], tT 7 [1, 2, 3, 5, 6, 7, 8], tT 8 [1, 2, 3, 5, 6, 7, 8, 23], tT 9 [1, 2, 3, 5, 6, 7, 8], tT 10 [1, 2, 3, 5, 6, 7, 35], tT 11 [1, 2, 3, 5, 6], tT 12 [2, 3]]
def tl20 : List (Nat × Tidy) := [tT 8 [1, 2, 3, 5, 6]]
def rs20 : List AResV := [.cell 2 true 2, .tmp 3]
def p20_0_0 : PT St := pS [sl 1 (aV false [(cPtr 1 0)]), sl 2 (aV false [(cPtr 2 0)]), sl 3 (aV false [(cD (dI .i64))]), sl 5 (aV false [(cPtr 5 0)]), sl 6 (aV false [(cPtr 6 0)])] [eBox 1 [(cD dS), (cD (dI .i64)), (cD (dI .i64)), (cD (dI .i64)), (cD (dI .i64)), (cD (dI .i64)), (cD (dI .i64)), (cD (dI .i64)), (cD (dI .i64)), (cD (dI .i64))], eBox 2 [(cD (dI .i64)), (cD (dI .i64))], eBox 5 [(cD (dI .i64)), (cD (dI .i64))], eBox 6 [(cD dB)]]
def u20_0_0 {β : Type} (g : St → β) : Int → ByteArray → Int → Int → Int → Int → Int → Int → Int → Int → Int → Int → Int → Int → Int → Bool → β := p20_0_0.unc g
def pr20_0_0 : PT (List RV) := pRs [pR true [rD (dI .i64), rD (dI .i64)], pR false [rD (dI .i64)]]
def ur20_0_0 {β : Type} (g : List RV → β) : Int → Int → Int → β := pr20_0_0.unc g
def E20_0g (vf54_0 : Tf54_0) (vq55 : Tq55) : EnvK := EnvK.of [⟨54, nt54, [⟨pa54_0, Fn54_0 vf54_0⟩]⟩] (seqE [⟨55, pq55, vq55⟩])
noncomputable def E20_0 : EnvK := E20_0g f54_0 q55
theorem eo20_0 : E20_0.Ok Try.prog := EnvK.of_ok (seqE_ok (l := [⟨55, pq55, q55⟩]) ⟨sqok55, trivial⟩) ⟨⟨io54_0, trivial⟩, trivial⟩
noncomputable def ca20_0_17 : MCode := (.seq (.region r20_19 [] (tO [1, 2, 3, 5, 6, 7, 17])) (.region r20_20 [] (tO [1, 2, 3, 5, 6, 7, 8])))
theorem ga20_0_17 : ca20_0_17.Good Try.prog E20_0 sh20 := ⟨trivial, trivial⟩
noncomputable def c20_0_17g  : MCode := (.block 1 (.seq (.seq (.region r20_24 [] (tO [1, 2, 3, 5, 6, 7, 8, 23])) (.cond (.tmp 23) (.region r20_26 [] (tO [1, 2, 3, 5, 6, 7, 8])) .skip)) (.seq (.region r20_28 [] (tO [1, 2, 3, 5, 6, 7, 35])) (.cond (.tmp 35) (.region r20_30 [] (tO [1, 2, 3, 5, 6])) .skip))))
noncomputable def c20_0_17 : MCode := c20_0_17g 
theorem g20_0_17 : c20_0_17.Good Try.prog E20_0 sh20 := ⟨⟨trivial, ⟨trivial, trivial⟩⟩, ⟨trivial, ⟨trivial, trivial⟩⟩⟩
--CODE 17 0
def S20_0_0g  (α : Type) (x17 x18 : Int) (y28 : Int × Int × Int) (x25 x26 : Int) (x27 : Bool) (kn : Int → Int → Bool → Option α) (k1 : Int → Int → Bool → Option α) : Option α :=
 cK (decide (x18 ≤ y28.2.1))
 (cK (decide (y28.2.2 ≤ x17))
 (cK (!x27)
 (kn y28.1 y28.1 true)
 (kn y28.1 x26 x27))
 (kn y28.1 x26 x27))
 (cK (decide (y28.2.2 ≤ x17))
 (cK (!x27)
 (kn x25 y28.1 true)
 (kn x25 x26 x27))
 (kn x25 x26 x27))
noncomputable def S20_0_0 (α : Type) (x17 x18 : Int) (y28 : Int × Int × Int) (x25 x26 : Int) (x27 : Bool) (kn : Int → Int → Bool → Option α) (k1 : Int → Int → Bool → Option α) : Option α := S20_0_0g  α x17 x18 y28 x25 x26 x27 kn k1
noncomputable def V20_0_0 (α : Type) (x17 x18 : Int) (k1 : Int → Int → Bool → Option α) : List (Int × Int × Int) → Int → Int → Bool → Option α
 | [], x25, x26, x27 => k1 x25 x26 x27
 | y28 :: ys, x25, x26, x27 => S20_0_0 α x17 x18 y28 x25 x26 x27 (V20_0_0 α x17 x18 k1 ys) k1
abbrev TV20_0_0 : Type 1 := (α : Type) → Int → Int → (Int → Int → Bool → Option α) → List (Int × Int × Int) → Int → Int → Bool → Option α
def F20_0_0 (v : TV20_0_0) (α : Type) (K : Exit → St → Option α) (ys : List (Int × Int × Int)) : Int → ByteArray → Int → Int → Int → Int → Int → Int → Int → Int → Int → Int → Int → Int → Int → Bool → Option α := fun x12 x13 x14 x15 x16 x17 x18 x19 x20 x21 x22 x23 x24 x25 x26 x27 => v α x17 x18 (fun (y1 : Int) (y2 : Int) (y3 : Bool) => u20_0_0 (K .normal) x12 x13 x14 x15 x16 x17 x18 x19 x20 x21 x22 x23 x24 y1 y2 y3) ys x25 x26 x27
theorem r20_0_0g (vf54_0 : Tf54_0) (vq55 : Tq55)  (α : Type) (K : Exit → St → Option α) (Kn : St → Option α) (y28 : Int × Int × Int) (x12 : Int) (x13 : ByteArray) (x14 x15 x16 x17 x18 x19 x20 x21 x22 x23 x24 x25 x26 : Int) (x27 : Bool) : u20_0_0 (fun σ => roundT (runM Try.prog (E20_0g vf54_0 vq55) sh20 ca20_0_17) (runM Try.prog (E20_0g vf54_0 vq55) sh20 c20_0_17) [16, 17] td20_17 Kn K (xIP.ex y28) σ) x12 x13 x14 x15 x16 x17 x18 x19 x20 x21 x22 x23 x24 x25 x26 x27 = S20_0_0g  α x17 x18 y28 x25 x26 x27 (fun x25 x26 x27 => u20_0_0 Kn x12 x13 x14 x15 x16 x17 x18 x19 x20 x21 x22 x23 x24 x25 x26 x27) (fun (y1 : Int) (y2 : Int) (y3 : Bool) => u20_0_0 (K .normal) x12 x13 x14 x15 x16 x17 x18 x19 x20 x21 x22 x23 x24 y1 y2 y3) := by kernel_rfl
theorem r20_0_0 (α : Type) (K : Exit → St → Option α) (Kn : St → Option α) (y28 : Int × Int × Int) (x12 : Int) (x13 : ByteArray) (x14 x15 x16 x17 x18 x19 x20 x21 x22 x23 x24 x25 x26 : Int) (x27 : Bool) : u20_0_0 (fun σ => roundT (runM Try.prog E20_0 sh20 ca20_0_17) (runM Try.prog E20_0 sh20 c20_0_17) [16, 17] td20_17 Kn K (xIP.ex y28) σ) x12 x13 x14 x15 x16 x17 x18 x19 x20 x21 x22 x23 x24 x25 x26 x27 = S20_0_0 α x17 x18 y28 x25 x26 x27 (fun x25 x26 x27 => u20_0_0 Kn x12 x13 x14 x15 x16 x17 x18 x19 x20 x21 x22 x23 x24 x25 x26 x27) (fun (y1 : Int) (y2 : Int) (y3 : Bool) => u20_0_0 (K .normal) x12 x13 x14 x15 x16 x17 x18 x19 x20 x21 x22 x23 x24 y1 y2 y3) := r20_0_0g f54_0 q55 α K Kn y28 x12 x13 x14 x15 x16 x17 x18 x19 x20 x21 x22 x23 x24 x25 x26 x27
theorem t20_0_0 (α : Type) (K : Exit → St → Option α) : ∀ (ys : List (Int × Int × Int)) (x12 : Int) (x13 : ByteArray) (x14 x15 x16 x17 x18 x19 x20 x21 x22 x23 x24 x25 x26 : Int) (x27 : Bool), V20_0_0 α x17 x18 (fun (y1 : Int) (y2 : Int) (y3 : Bool) => u20_0_0 (K .normal) x12 x13 x14 x15 x16 x17 x18 x19 x20 x21 x22 x23 x24 y1 y2 y3) ys x25 x26 x27 = u20_0_0 (roundsK (runM Try.prog E20_0 sh20 ca20_0_17) (runM Try.prog E20_0 sh20 c20_0_17) [16, 17] td20_17 K (ys.map xIP.ex)) x12 x13 x14 x15 x16 x17 x18 x19 x20 x21 x22 x23 x24 x25 x26 x27 := by
 intro ys
 induction ys with
 | nil => intros; rfl
 | cons y28 ys ih => intro x12 x13 x14 x15 x16 x17 x18 x19 x20 x21 x22 x23 x24 x25 x26 x27; exact (congrArg (fun kn => S20_0_0 α x17 x18 y28 x25 x26 x27 kn (fun (y1 : Int) (y2 : Int) (y3 : Bool) => u20_0_0 (K .normal) x12 x13 x14 x15 x16 x17 x18 x19 x20 x21 x22 x23 x24 y1 y2 y3)) (funext fun x25 => funext fun x26 => funext fun x27 => ih x12 x13 x14 x15 x16 x17 x18 x19 x20 x21 x22 x23 x24 x25 x26 x27)).trans (r20_0_0 α K (roundsK (runM Try.prog E20_0 sh20 ca20_0_17) (runM Try.prog E20_0 sh20 c20_0_17) [16, 17] td20_17 K (ys.map xIP.ex)) y28 x12 x13 x14 x15 x16 x17 x18 x19 x20 x21 x22 x23 x24 x25 x26 x27).symm
theorem m20_0_0 : ∀ (α : Type) (K : Exit → St → Option α) (ys : List (Int × Int × Int)), F20_0_0 V20_0_0 α K ys = p20_0_0.unc fun σ => roundsK (runM Try.prog E20_0 sh20 ca20_0_17) (runM Try.prog E20_0 sh20 c20_0_17) [16, 17] td20_17 K (ys.map xIP.ex) σ := fun α K ys => funext fun x12 => funext fun x13 => funext fun x14 => funext fun x15 => funext fun x16 => funext fun x17 => funext fun x18 => funext fun x19 => funext fun x20 => funext fun x21 => funext fun x22 => funext fun x23 => funext fun x24 => funext fun x25 => funext fun x26 => funext fun x27 => t20_0_0 α K ys x12 x13 x14 x15 x16 x17 x18 x19 x20 x21 x22 x23 x24 x25 x26 x27
abbrev Tf20_0 : Type 1 := (α : Type) → ByteArray → Int → Int → Int → Int → Int → Int → Int → Int → Int → (Int → Int → Int → Option α) → Option α
def f20_0g (vV20_0_0 : TV20_0_0) (vf54_0 : Tf54_0) (vq55 : Tq55) (α : Type) (x1 : ByteArray) (x2 x3 x4 x5 x6 x7 x8 x9 x10 : Int) (k1 : Int → Int → Int → Option α) : Option α :=
 vf54_0 α x1 x2 x3 x4 x5 x6 x7 x8 x9 x10
 (fun x11 => cK (x11 != 0)
 (k1 0 0 x11)
 (qK vq55 xIP fun y32 => vV20_0_0 α x5 x6
 (fun x29 x30 x31 => k1 x29 x30 0) y32 0 1024 false))
noncomputable def f20_0 (α : Type) (x1 : ByteArray) (x2 x3 x4 x5 x6 x7 x8 x9 x10 : Int) (k1 : Int → Int → Int → Option α) : Option α := f20_0g V20_0_0 f54_0 q55 α x1 x2 x3 x4 x5 x6 x7 x8 x9 x10 k1
def pa20_0 : PT (List DV) := pA [pV true [dS, (dI .i64), (dI .i64), (dI .i64), (dI .i64), (dI .i64), (dI .i64), (dI .i64), (dI .i64), (dI .i64)]]
def Fn20_0 (v : Tf20_0) (α : Type) (k : List RV → Option α) : ByteArray → Int → Int → Int → Int → Int → Int → Int → Int → Int → Option α := fun x1 x2 x3 x4 x5 x6 x7 x8 x9 x10 => v α x1 x2 x3 x4 x5 x6 x7 x8 x9 x10 (fun (y1 : Int) (y2 : Int) (y3 : Int) => ur20_0_0 k y1 y2 y3)
noncomputable def cm20_0g (vV20_0_0 : TV20_0_0) : MCode := (.seq (.region r20_2 [] (tO [1, 2, 3])) (.seq (.seq (.region r20_5 [] (tO [1, 2, 3, 4])) (.seq (.region r20_7 [] (tO [1, 2, 3, 4, 12])) (.cond (.tmp 12) (.seq (.region r20_10 [] (tO [2, 3])) .ret) .skip))) (.seq (.region r20_12 [] (tO [1, 2, 3, 5])) (.seq (.region r20_14 [] (tO [1, 2, 3, 5, 6])) (.seq (.block 0 (.rangeF (.func 55) [16, 17] td20_17 [⟨xIP, p20_0_0, F20_0_0 vV20_0_0⟩] ca20_0_17 c20_0_17)) (.seq (.region r20_32 [] (tO [2, 3])) .ret))))))
noncomputable def cm20_0 : MCode := cm20_0g V20_0_0
theorem gm20_0 : cm20_0.Good Try.prog E20_0 sh20 := ⟨trivial, ⟨⟨trivial, ⟨trivial, ⟨⟨trivial, trivial⟩, trivial⟩⟩⟩, ⟨trivial, ⟨trivial, ⟨⟨⟨ga20_0_17, g20_0_17⟩, m20_0_0, trivial⟩, ⟨trivial, trivial⟩⟩⟩⟩⟩⟩
theorem fm20_0g (vf54_0 : Tf54_0) (vq55 : Tq55) (vV20_0_0 : TV20_0_0) (α : Type) (k : List RV → Option α) : Fn20_0 (f20_0g vV20_0_0 vf54_0 vq55) α k = pa20_0.unc fun ds => fnM Try.prog (E20_0g vf54_0 vq55) sh20 (cm20_0g vV20_0_0) rs20 k ds := by kernel_rfl
theorem fm20_0 : ∀ (α : Type) (k : List RV → Option α), Fn20_0 f20_0 α k = pa20_0.unc fun ds => fnM Try.prog E20_0 sh20 cm20_0 rs20 k ds := fm20_0g f54_0 q55 V20_0_0
theorem is20 : FnIs Try.prog 20 nt20 tr20 tl20 cm20_0.erase rs20 := ⟨Try.f20, Try.func20, rfl, by kernel_rfl, by kernel_rfl, by kernel_rfl⟩
theorem io20_0 : InstOk Try.prog 20 nt20 ⟨pa20_0, Fn20_0 f20_0⟩ := inst_ok eo20_0 followsTry is20 ⟨⟨sh20, cm20_0, by kernel_rfl, gm20_0, fm20_0⟩⟩
abbrev nt13 : Nat := 104
def sh13 : List (Nat × List Sh) := [(16, [.int .i64, .int .i64, .int .i64, .int .i64, .int .i64, .int .i64, .int .i64, .int .i64, .int .i64, .int .i64]), (17, [.int .i64, .int .i64, .int .i64, .int .i64, .int .i64, .int .i64, .int .i64, .int .i64, .int .i64, .int .i64]), (22, [.int .i64, .int .i64, .int .i64, .int .i64, .int .i64, .int .i64, .int .i64, .int .i64, .int .i64, .int .i64]), (30, [.int .i64]), (32, [.int .i64]), (36, [.int .i64]), (50, [.int .i64]), (57, [.int .i64]), (64, [.int .i64]), (74, [.int .i64]), (78, [.int .i64]), (88, [.int .i64]), (95, [.int .i64]), (103, [.int .i64, .int .i64, .int .i64, .int .i64, .int .i64, .int .i64, .int .i64, .int .i64, .int .i64, .int .i64])]
def r13_2 : List AOper := [oO 2 (.box (.tmp 0)), oO 3 (.box (.tmp 1)), oO 4 (.alloc [(cI 0), (cI 0), (cI 0), (cI 0), (cI 0), (cI 0), (cI 0), (cI 0), (cI 0), (cI 0)]), oO 5 (.mv (kI 0))]
def r13_5 : List AOper := [oO 16 (.load true 10 (.tmp 2)), oO 17 (.load true 10 (.tmp 3)), oO 18 (.build [(cI 0), (cI 0), (cI 0), (cI 0), (cI 0), (cI 0), (cI 0), (cI 0), (cI 0), (cI 0), (cI 0), (cI 0), (cI 0), (cI 0), (cI 0), (cI 0), (cI 0), (cI 0), (cI 0), (cI 0)] [(0, 10, (.tmp 16)), (10, 10, (.tmp 17))]), oO 19 (.mv (kI 0))]
def td13_7 : Option Tidy := (tO [2, 3, 4, 18, 19])
def r13_9 : List AOper := [oO 20 (.bin .lss 3 (.tmp 19) (kI 2))]
def r13_15 : List AOper := [oO 21 (.index true 2 10 (.tmp 18) (.tmp 19)), oO 7 (.alloc [(cI 0), (cI 0), (cI 0), (cI 0), (cI 0), (cI 0), (cI 0), (cI 0), (cI 0), (cI 0)]), oD (.store 10 (.tmp 7) (.tmp 21))]
def r13_17 : List AOper := [oO 22 (.load true 10 (.tmp 7)), oO 23 (.call 31 [(.tmp 22)]), oM 8 23]
def r13_19 : List AOper := [oM 24 8, oO 25 (.bin .neq 30 (.tmp 24) (kI 0))]
def r13_22 : List AOper := [oO 26 (.build [(cI 0), (cI 0), (cI 0), (cI 0), (cI 0), (cI 0), (cI 0), (cI 0), (cI 0), (cI 0)] []), oM 27 8, oD (.store 10 (.tmp 4) (.tmp 26)), oM 5 27]
def r13_23 : List AOper := [oO 28 (.bin .add 3 (.tmp 19) (kI 1)), oM 19 28]
def r13_25 : List AOper := [oO 29 (.faddr 9 (.tmp 2)), oO 30 (.load false 1 (.tmp 29)), oO 31 (.faddr 9 (.tmp 3)), oO 32 (.load false 1 (.tmp 31)), oO 33 (.bin .mul 3 (.tmp 30) (.tmp 32)), oO 34 (.build [(cI 0), (cI 0), (cI 0), (cI 0), (cI 0), (cI 0), (cI 0), (cI 0), (cI 0), (cI 0)] [(9, 1, (.tmp 33))]), oO 9 (.alloc [(cI 0), (cI 0), (cI 0), (cI 0), (cI 0), (cI 0), (cI 0), (cI 0), (cI 0), (cI 0)]), oD (.store 10 (.tmp 9) (.tmp 34))]
def r13_27 : List AOper := [oO 35 (.faddr 9 (.tmp 9)), oO 36 (.load false 1 (.tmp 35)), oM 10 36]
def r13_30 : List AOper := [oO 37 (.mv (kI 0))]
def td13_32 : Option Tidy := (tO [2, 3, 4, 9, 10, 37])
def r13_34 : List AOper := [oO 38 (.bin .lss 3 (.tmp 37) (kI 9))]
def r13_40 : List AOper := [oM 39 37, oM 11 39]
def r13_42 : List AOper := [oM 40 11, oO 41 (.bin .quo 3 (.tmp 40) (kI 3)), oM 42 11, oO 43 (.bin .rem 3 (.tmp 42) (kI 3)), oM 12 41, oM 13 43]
def r13_45 : List AOper := [oO 44 (.mv (kI 0))]
def td13_47 : Option Tidy := (tO [2, 3, 4, 9, 10, 11, 12, 13, 37, 44])
def r13_49 : List AOper := [oO 45 (.bin .lss 3 (.tmp 44) (kI 3))]
def r13_55 : List AOper := [oM 46 44, oM 14 46]
def r13_56 : List AOper := [oM 47 11, oO 48 (.faddr 0 (.tmp 9)), oO 49 (.iaddr 1 (some 9) (.tmp 48) (.tmp 47)), oO 50 (.load false 1 (.tmp 49)), oM 51 12, oO 52 (.bin .mul 3 (kI 3) (.tmp 51)), oM 53 14, oO 54 (.bin .add 3 (.tmp 52) (.tmp 53)), oO 55 (.faddr 0 (.tmp 2)), oO 56 (.iaddr 1 (some 9) (.tmp 55) (.tmp 54)), oO 57 (.load false 1 (.tmp 56)), oM 58 14, oO 59 (.bin .mul 3 (kI 3) (.tmp 58)), oM 60 13, oO 61 (.bin .add 3 (.tmp 59) (.tmp 60)), oO 62 (.faddr 0 (.tmp 3)), oO 63 (.iaddr 1 (some 9) (.tmp 62) (.tmp 61)), oO 64 (.load false 1 (.tmp 63)), oO 65 (.bin .mul 3 (.tmp 57) (.tmp 64)), oO 66 (.bin .add 3 (.tmp 50) (.tmp 65)), oO 67 (.faddr 0 (.tmp 9)), oO 68 (.iaddr 1 (some 9) (.tmp 67) (.tmp 47)), oD (.store 1 (.tmp 68) (.tmp 66))]
def r13_57 : List AOper := [oO 69 (.bin .add 3 (.tmp 44) (kI 1)), oM 44 69]
def r13_58 : List AOper := [oM 70 10, oM 71 11, oO 72 (.faddr 0 (.tmp 9)), oO 73 (.iaddr 1 (some 9) (.tmp 72) (.tmp 71)), oO 74 (.load false 1 (.tmp 73)), oO 75 (.call 32 [(.tmp 70), (.tmp 74)]), oM 10 75]
def r13_59 : List AOper := [oO 76 (.bin .add 3 (.tmp 37) (kI 1)), oM 37 76]
def r13_61 : List AOper := [oO 77 (.faddr 9 (.tmp 9)), oO 78 (.load false 1 (.tmp 77)), oM 79 10, oO 80 (.bin .quo 3 (.tmp 78) (.tmp 79)), oO 81 (.faddr 9 (.tmp 9)), oD (.store 1 (.tmp 81) (.tmp 80))]
def r13_64 : List AOper := [oO 82 (.mv (kI 0))]
def td13_66 : Option Tidy := (tO [4, 9, 10, 82])
def r13_68 : List AOper := [oO 83 (.bin .lss 3 (.tmp 82) (kI 9))]
def r13_74 : List AOper := [oM 84 82, oM 15 84]
def r13_75 : List AOper := [oM 85 15, oO 86 (.faddr 0 (.tmp 9)), oO 87 (.iaddr 1 (some 9) (.tmp 86) (.tmp 85)), oO 88 (.load false 1 (.tmp 87)), oM 89 10, oO 90 (.bin .quo 3 (.tmp 88) (.tmp 89)), oO 91 (.faddr 0 (.tmp 9)), oO 92 (.iaddr 1 (some 9) (.tmp 91) (.tmp 85)), oD (.store 1 (.tmp 92) (.tmp 90))]
def r13_76 : List AOper := [oO 93 (.bin .add 3 (.tmp 82) (kI 1)), oM 82 93]
def r13_80 : List AOper := []
def r13_81 : List AOper := [oO 94 (.faddr 9 (.tmp 9)), oO 95 (.load false 1 (.tmp 94)), oO 96 (.bin .gtr 3 (.tmp 95) (kI 1000)), oM 97 96, oG 98 (.faddr 0 (.tmp 9)) 97 false, oG 99 (.aslice 1 9 (.tmp 98)) 97 false, oG 100 (.call 33 [(.tmp 99), (.func 34)]) 97 false, oO 101 (.pick (.tmp 97) (.const (.bool true)) (.tmp 100))]
def r13_84 : List AOper := [oO 102 (.build [(cI 0), (cI 0), (cI 0), (cI 0), (cI 0), (cI 0), (cI 0), (cI 0), (cI 0), (cI 0)] []), oD (.store 10 (.tmp 4) (.tmp 102)), oO 5 (.mv (kI 8))]
def r13_86 : List AOper := [oO 103 (.load true 10 (.tmp 9)), oD (.store 10 (.tmp 4) (.tmp 103)), oO 5 (.mv (kI 0))]
def tr13 : List (Nat × Tidy) := [tT 0 [2, 3, 4], tT 1 [2, 3, 4, 18, 19], tT 2 [2, 3, 4, 18, 19, 20], tT 3 [2, 3, 4, 7, 18, 19], tT 4 [2, 3, 4, 8, 18, 19], tT 5 [2, 3, 4, 8, 18, 19, 25], tT 6 [4, 5], tT 7 [2, 3, 4, 18, 19], tT 8 [2, 3, 4, 9], tT 9 [2, 3, 4, 9, 10], tT 10 [2, 3, 4, 9, 10, 37], tT 11 [2, 3, 4, 9, 10, 37, 38], tT 12 [2, 3, 4, 9, 10, 11, 37], tT 13 [2, 3, 4, 9, 10, 11, 12, 13, 37], tT 14 [2, 3, 4, 9, 10, 11, 12, 13, 37, 44], tT 15 [2, 3, 4, 9, 10, 11, 12, 13, 37, 44, 45], tT 16 [2, 3, 4, 9, 10, 11, 12, 13, 14, 37, 44], tT 17 [2, 3, 4, 9, 10, 11, 12, 13, 37, 44], tT 18 [2, 3, 4, 9, 10, 11, 12, 13, 37, 44], tT 19 [2, 3, 4, 9, 10, 37], tT 20 [2, 3, 4, 9, 10, 37], tT 21 [4, 9, 10], tT 22 [4, 9, 10, 82], tT 23 [4, 9, 10, 82, 83], tT 24 [4, 9, 10, 15, 82], tT 25 [4, 9, 10, 82], tT 26 [4, 9, 10, 82], tT 27 [4, 9, 101], tT 28 [4, 5], tT 29 [4, 5], (2000027, ⟨[4, 9], true, [], [9]⟩)]
def tl13 : List (Nat × Tidy) := [tT 2 [2, 3, 4, 18, 19], tT 11 [2, 3, 4, 9, 10, 37], tT 15 [2, 3, 4, 9, 10, 11, 12, 13, 37, 44], tT 23 [4, 9, 10, 82]]
def rs13 : List AResV := [.cell 4 true 10, .tmp 5]
def pr13_0_0 : PT (List RV) := pRs [pR true [rD (dI .i64), rD (dI .i64), rD (dI .i64), rD (dI .i64), rD (dI .i64), rD (dI .i64), rD (dI .i64), rD (dI .i64), rD (dI .i64), rD (dI .i64)], pR false [rD (dI .i64)]]
def ur13_0_0 {β : Type} (g : List RV → β) : Int → Int → Int → Int → Int → Int → Int → Int → Int → Int → Int → β := pr13_0_0.unc g
def E13_0g (vf31_0 : Tf31_0) (vf32_0 : Tf32_0) (vf33_1 : Tf33_1) : EnvK := EnvK.of [⟨31, nt31, [⟨pa31_0, Fn31_0 vf31_0⟩]⟩, ⟨32, nt32, [⟨pa32_0, Fn32_0 vf32_0⟩]⟩, ⟨33, nt33, [⟨pa33_1, Fn33_1 vf33_1⟩]⟩] noSeq
noncomputable def E13_0 : EnvK := E13_0g f31_0 f32_0 f33_1
theorem eo13_0 : E13_0.Ok Try.prog := EnvK.of_ok noSeq_ok ⟨⟨io31_0, trivial⟩, ⟨io32_0, trivial⟩, ⟨io33_1, trivial⟩, trivial⟩
abbrev Tf13_0 : Type 1 := (α : Type) → Int → Int → Int → Int → Int → Int → Int → Int → Int → Int → Int → Int → Int → Int → Int → Int → Int → Int → Int → Int → (Int → Int → Int → Int → Int → Int → Int → Int → Int → Int → Int → Option α) → Option α
def f13_0g (vf31_0 : Tf31_0) (vf32_0 : Tf32_0) (vf33_1 : Tf33_1) (α : Type) (x1 x2 x3 x4 x5 x6 x7 x8 x9 x10 x11 x12 x13 x14 x15 x16 x17 x18 x19 x20 : Int) (k1 : Int → Int → Int → Int → Int → Int → Int → Int → Int → Int → Int → Option α) : Option α :=
 vf31_0 α x1 x2 x3 x4 x5 x6 x7 x8 x9 x10
 (fun x21 => cK (x21 != 0)
 (k1 0 0 0 0 0 0 0 0 0 0 x21)
 (vf31_0 α x11 x12 x13 x14 x15 x16 x17 x18 x19 x20
 (fun x22 => cK (x22 != 0)
 (k1 0 0 0 0 0 0 0 0 0 0 x22)
 (vf32_0 α (w64 (x10 * x20)) (w64 ((w64 ((w64 (0 + (w64 (x1 * x11)))) + (w64 (x2 * x14)))) + (w64 (x3 * x17))))
 (fun x23 => vf32_0 α x23 (w64 ((w64 ((w64 (0 + (w64 (x1 * x12)))) + (w64 (x2 * x15)))) + (w64 (x3 * x18))))
 (fun x24 => vf32_0 α x24 (w64 ((w64 ((w64 (0 + (w64 (x1 * x13)))) + (w64 (x2 * x16)))) + (w64 (x3 * x19))))
 (fun x25 => vf32_0 α x25 (w64 ((w64 ((w64 (0 + (w64 (x4 * x11)))) + (w64 (x5 * x14)))) + (w64 (x6 * x17))))
 (fun x26 => vf32_0 α x26 (w64 ((w64 ((w64 (0 + (w64 (x4 * x12)))) + (w64 (x5 * x15)))) + (w64 (x6 * x18))))
 (fun x27 => vf32_0 α x27 (w64 ((w64 ((w64 (0 + (w64 (x4 * x13)))) + (w64 (x5 * x16)))) + (w64 (x6 * x19))))
 (fun x28 => vf32_0 α x28 (w64 ((w64 ((w64 (0 + (w64 (x7 * x11)))) + (w64 (x8 * x14)))) + (w64 (x9 * x17))))
 (fun x29 => vf32_0 α x29 (w64 ((w64 ((w64 (0 + (w64 (x7 * x12)))) + (w64 (x8 * x15)))) + (w64 (x9 * x18))))
 (fun x30 => vf32_0 α x30 (w64 ((w64 ((w64 (0 + (w64 (x7 * x13)))) + (w64 (x8 * x16)))) + (w64 (x9 * x19))))
 (fun x31 => gK (x31 != 0) (gK (x31 != 0) (gK (x31 != 0) (gK (x31 != 0) (gK (x31 != 0) (gK (x31 != 0) (gK (x31 != 0) (gK (x31 != 0) (gK (x31 != 0) (gK (x31 != 0) (cK (decide (1000 < (w64 (Int.tdiv (w64 (x10 * x20)) x31))))
 (k1 0 0 0 0 0 0 0 0 0 0 8)
 (vf33_1 α [[DC.v (.int .i64 (w64 (Int.tdiv (w64 ((w64 ((w64 (0 + (w64 (x1 * x11)))) + (w64 (x2 * x14)))) + (w64 (x3 * x17)))) x31)))], [DC.v (.int .i64 (w64 (Int.tdiv (w64 ((w64 ((w64 (0 + (w64 (x1 * x12)))) + (w64 (x2 * x15)))) + (w64 (x3 * x18)))) x31)))], [DC.v (.int .i64 (w64 (Int.tdiv (w64 ((w64 ((w64 (0 + (w64 (x1 * x13)))) + (w64 (x2 * x16)))) + (w64 (x3 * x19)))) x31)))], [DC.v (.int .i64 (w64 (Int.tdiv (w64 ((w64 ((w64 (0 + (w64 (x4 * x11)))) + (w64 (x5 * x14)))) + (w64 (x6 * x17)))) x31)))], [DC.v (.int .i64 (w64 (Int.tdiv (w64 ((w64 ((w64 (0 + (w64 (x4 * x12)))) + (w64 (x5 * x15)))) + (w64 (x6 * x18)))) x31)))], [DC.v (.int .i64 (w64 (Int.tdiv (w64 ((w64 ((w64 (0 + (w64 (x4 * x13)))) + (w64 (x5 * x16)))) + (w64 (x6 * x19)))) x31)))], [DC.v (.int .i64 (w64 (Int.tdiv (w64 ((w64 ((w64 (0 + (w64 (x7 * x11)))) + (w64 (x8 * x14)))) + (w64 (x9 * x17)))) x31)))], [DC.v (.int .i64 (w64 (Int.tdiv (w64 ((w64 ((w64 (0 + (w64 (x7 * x12)))) + (w64 (x8 * x15)))) + (w64 (x9 * x18)))) x31)))], [DC.v (.int .i64 (w64 (Int.tdiv (w64 ((w64 ((w64 (0 + (w64 (x7 * x13)))) + (w64 (x8 * x16)))) + (w64 (x9 * x19)))) x31)))]]
 (fun x32 => cK x32
 (k1 0 0 0 0 0 0 0 0 0 0 8)
 (k1 (w64 (Int.tdiv (w64 ((w64 ((w64 (0 + (w64 (x1 * x11)))) + (w64 (x2 * x14)))) + (w64 (x3 * x17)))) x31)) (w64 (Int.tdiv (w64 ((w64 ((w64 (0 + (w64 (x1 * x12)))) + (w64 (x2 * x15)))) + (w64 (x3 * x18)))) x31)) (w64 (Int.tdiv (w64 ((w64 ((w64 (0 + (w64 (x1 * x13)))) + (w64 (x2 * x16)))) + (w64 (x3 * x19)))) x31)) (w64 (Int.tdiv (w64 ((w64 ((w64 (0 + (w64 (x4 * x11)))) + (w64 (x5 * x14)))) + (w64 (x6 * x17)))) x31)) (w64 (Int.tdiv (w64 ((w64 ((w64 (0 + (w64 (x4 * x12)))) + (w64 (x5 * x15)))) + (w64 (x6 * x18)))) x31)) (w64 (Int.tdiv (w64 ((w64 ((w64 (0 + (w64 (x4 * x13)))) + (w64 (x5 * x16)))) + (w64 (x6 * x19)))) x31)) (w64 (Int.tdiv (w64 ((w64 ((w64 (0 + (w64 (x7 * x11)))) + (w64 (x8 * x14)))) + (w64 (x9 * x17)))) x31)) (w64 (Int.tdiv (w64 ((w64 ((w64 (0 + (w64 (x7 * x12)))) + (w64 (x8 * x15)))) + (w64 (x9 * x18)))) x31)) (w64 (Int.tdiv (w64 ((w64 ((w64 (0 + (w64 (x7 * x13)))) + (w64 (x8 * x16)))) + (w64 (x9 * x19)))) x31)) (w64 (Int.tdiv (w64 (x10 * x20)) x31)) 0))))))))))))))))))))))))))
noncomputable def f13_0 (α : Type) (x1 x2 x3 x4 x5 x6 x7 x8 x9 x10 x11 x12 x13 x14 x15 x16 x17 x18 x19 x20 : Int) (k1 : Int → Int → Int → Int → Int → Int → Int → Int → Int → Int → Int → Option α) : Option α := f13_0g f31_0 f32_0 f33_1 α x1 x2 x3 x4 x5 x6 x7 x8 x9 x10 x11 x12 x13 x14 x15 x16 x17 x18 x19 x20 k1
def pa13_0 : PT (List DV) := pA [pV true [(dI .i64), (dI .i64), (dI .i64), (dI .i64), (dI .i64), (dI .i64), (dI .i64), (dI .i64), (dI .i64), (dI .i64)], pV true [(dI .i64), (dI .i64), (dI .i64), (dI .i64), (dI .i64), (dI .i64), (dI .i64), (dI .i64), (dI .i64), (dI .i64)]]
def Fn13_0 (v : Tf13_0) (α : Type) (k : List RV → Option α) : Int → Int → Int → Int → Int → Int → Int → Int → Int → Int → Int → Int → Int → Int → Int → Int → Int → Int → Int → Int → Option α := fun x1 x2 x3 x4 x5 x6 x7 x8 x9 x10 x11 x12 x13 x14 x15 x16 x17 x18 x19 x20 => v α x1 x2 x3 x4 x5 x6 x7 x8 x9 x10 x11 x12 x13 x14 x15 x16 x17 x18 x19 x20 (fun (y1 : Int) (y2 : Int) (y3 : Int) (y4 : Int) (y5 : Int) (y6 : Int) (y7 : Int) (y8 : Int) (y9 : Int) (y10 : Int) (y11 : Int) => ur13_0_0 k y1 y2 y3 y4 y5 y6 y7 y8 y9 y10 y11)
noncomputable def cm13_0g  : MCode := (.seq (.region r13_2 [] (tO [2, 3, 4])) (.seq (.seq (.region r13_5 [] (tO [2, 3, 4, 18, 19])) (.block 0 (.loopU 3 td13_7 (.seq (.region r13_9 [] (tO [2, 3, 4, 18, 19, 20])) (.seq (.cond (.tmp 20) .skip (.exit 0)) (.seq (.block 1 (.seq (.region r13_15 [] (tO [2, 3, 4, 7, 18, 19])) (.seq (.region r13_17 [] (tO [2, 3, 4, 8, 18, 19])) (.seq (.region r13_19 [] (tO [2, 3, 4, 8, 18, 19, 25])) (.cond (.tmp 25) (.seq (.region r13_22 [] (tO [4, 5])) .ret) .skip))))) (.region r13_23 [] (tO [2, 3, 4, 18, 19])))))))) (.seq (.region r13_25 [] (tO [2, 3, 4, 9])) (.seq (.region r13_27 [] (tO [2, 3, 4, 9, 10])) (.seq (.seq (.region r13_30 [] (tO [2, 3, 4, 9, 10, 37])) (.block 2 (.loopU 10 td13_32 (.seq (.region r13_34 [] (tO [2, 3, 4, 9, 10, 37, 38])) (.seq (.cond (.tmp 38) .skip (.exit 2)) (.seq (.block 3 (.seq (.region r13_40 [] (tO [2, 3, 4, 9, 10, 11, 37])) (.seq (.region r13_42 [] (tO [2, 3, 4, 9, 10, 11, 12, 13, 37])) (.seq (.seq (.region r13_45 [] (tO [2, 3, 4, 9, 10, 11, 12, 13, 37, 44])) (.block 4 (.loopU 4 td13_47 (.seq (.region r13_49 [] (tO [2, 3, 4, 9, 10, 11, 12, 13, 37, 44, 45])) (.seq (.cond (.tmp 45) .skip (.exit 4)) (.seq (.block 5 (.seq (.region r13_55 [] (tO [2, 3, 4, 9, 10, 11, 12, 13, 14, 37, 44])) (.region r13_56 [] (tO [2, 3, 4, 9, 10, 11, 12, 13, 37, 44])))) (.region r13_57 [] (tO [2, 3, 4, 9, 10, 11, 12, 13, 37, 44])))))))) (.region r13_58 [] (tO [2, 3, 4, 9, 10, 37])))))) (.region r13_59 [] (tO [2, 3, 4, 9, 10, 37])))))))) (.seq (.region r13_61 [] (tO [4, 9, 10])) (.seq (.seq (.region r13_64 [] (tO [4, 9, 10, 82])) (.block 6 (.loopU 10 td13_66 (.seq (.region r13_68 [] (tO [4, 9, 10, 82, 83])) (.seq (.cond (.tmp 83) .skip (.exit 6)) (.seq (.block 7 (.seq (.region r13_74 [] (tO [4, 9, 10, 15, 82])) (.region r13_75 [] (tO [4, 9, 10, 82])))) (.region r13_76 [] (tO [4, 9, 10, 82])))))))) (.seq (.seq (.seq (.region r13_80 [] (some ⟨[4, 9], true, [], [9]⟩)) (.region r13_81 [] (tO [4, 9, 101]))) (.cond (.tmp 101) (.seq (.region r13_84 [] (tO [4, 5])) .ret) .skip)) (.seq (.region r13_86 [] (tO [4, 5])) .ret)))))))))
noncomputable def cm13_0 : MCode := cm13_0g 
theorem gm13_0 : cm13_0.Good Try.prog E13_0 sh13 := ⟨trivial, ⟨⟨trivial, ⟨⟨trivial, ⟨⟨trivial, trivial⟩, ⟨⟨trivial, ⟨trivial, ⟨trivial, ⟨⟨trivial, trivial⟩, trivial⟩⟩⟩⟩, trivial⟩⟩⟩, by decide⟩⟩, ⟨trivial, ⟨trivial, ⟨⟨trivial, ⟨⟨trivial, ⟨⟨trivial, trivial⟩, ⟨⟨trivial, ⟨trivial, ⟨⟨trivial, ⟨⟨trivial, ⟨⟨trivial, trivial⟩, ⟨⟨trivial, trivial⟩, trivial⟩⟩⟩, by decide⟩⟩, trivial⟩⟩⟩, trivial⟩⟩⟩, by decide⟩⟩, ⟨trivial, ⟨⟨trivial, ⟨⟨trivial, ⟨⟨trivial, trivial⟩, ⟨⟨trivial, trivial⟩, trivial⟩⟩⟩, by decide⟩⟩, ⟨⟨⟨trivial, trivial⟩, ⟨⟨trivial, trivial⟩, trivial⟩⟩, ⟨trivial, trivial⟩⟩⟩⟩⟩⟩⟩⟩⟩
theorem fm13_0g (vf31_0 : Tf31_0) (vf32_0 : Tf32_0) (vf33_1 : Tf33_1)  (α : Type) (k : List RV → Option α) : Fn13_0 (f13_0g vf31_0 vf32_0 vf33_1) α k = pa13_0.unc fun ds => fnM Try.prog (E13_0g vf31_0 vf32_0 vf33_1) sh13 (cm13_0g ) rs13 k ds := by kernel_rfl
theorem fm13_0 : ∀ (α : Type) (k : List RV → Option α), Fn13_0 f13_0 α k = pa13_0.unc fun ds => fnM Try.prog E13_0 sh13 cm13_0 rs13 k ds := fm13_0g f31_0 f32_0 f33_1
theorem is13 : FnIs Try.prog 13 nt13 tr13 tl13 cm13_0.erase rs13 := ⟨Try.f13, Try.func13, rfl, by kernel_rfl, by kernel_rfl, by kernel_rfl⟩
theorem io13_0 : InstOk Try.prog 13 nt13 ⟨pa13_0, Fn13_0 f13_0⟩ := inst_ok eo13_0 followsTry is13 ⟨⟨sh13, cm13_0, by kernel_rfl, gm13_0, fm13_0⟩⟩
abbrev nt22 : Nat := 13
def sh22 : List (Nat × List Sh) := [(6, [.int .i64, .int .i64, .int .i64, .int .i64, .int .i64, .int .i64, .int .i64, .int .i64, .int .i64, .int .i64]), (11, [.int .i64, .int .i64, .int .i64, .int .i64, .int .i64, .int .i64])]
def r22_2 : List AOper := [oO 2 (.box (.tmp 0)), oO 3 (.box (.tmp 1)), oO 4 (.mv (kI 0))]
def r22_5 : List AOper := [oO 6 (.load true 10 (.tmp 2)), oO 7 (.call 31 [(.tmp 6)]), oM 5 7]
def r22_7 : List AOper := [oM 8 5, oO 9 (.bin .neq 30 (.tmp 8) (kI 0))]
def r22_10 : List AOper := [oM 10 5, oM 4 10]
def r22_12 : List AOper := [oO 11 (.load true 6 (.tmp 3)), oO 12 (.call 42 [(.tmp 11)]), oM 4 12]
def tr22 : List (Nat × Tidy) := [tT 0 [2, 3], tT 1 [3, 5], tT 2 [3, 5, 9], tT 3 [4], tT 4 [4]]
def tl22 : List (Nat × Tidy) := []
def rs22 : List AResV := [.tmp 4]
def pr22_0_0 : PT (List RV) := pRs [pR false [rD (dI .i64)]]
def ur22_0_0 {β : Type} (g : List RV → β) : Int → β := pr22_0_0.unc g
def E22_0g (vf31_0 : Tf31_0) (vf42_0 : Tf42_0) : EnvK := EnvK.of [⟨31, nt31, [⟨pa31_0, Fn31_0 vf31_0⟩]⟩, ⟨42, nt42, [⟨pa42_0, Fn42_0 vf42_0⟩]⟩] noSeq
noncomputable def E22_0 : EnvK := E22_0g f31_0 f42_0
theorem eo22_0 : E22_0.Ok Try.prog := EnvK.of_ok noSeq_ok ⟨⟨io31_0, trivial⟩, ⟨io42_0, trivial⟩, trivial⟩
abbrev Tf22_0 : Type 1 := (α : Type) → Int → Int → Int → Int → Int → Int → Int → Int → Int → Int → Int → Int → Int → Int → Int → Int → (Int → Option α) → Option α
def f22_0g (vf31_0 : Tf31_0) (vf42_0 : Tf42_0) (α : Type) (x1 x2 x3 x4 x5 x6 x7 x8 x9 x10 x11 x12 x13 x14 x15 x16 : Int) (k1 : Int → Option α) : Option α :=
 vf31_0 α x1 x2 x3 x4 x5 x6 x7 x8 x9 x10
 (fun x17 => cK (x17 != 0)
 (k1 x17)
 (vf42_0 α x11 x12 x13 x14 x15 x16
 (fun x18 => k1 x18)))
noncomputable def f22_0 (α : Type) (x1 x2 x3 x4 x5 x6 x7 x8 x9 x10 x11 x12 x13 x14 x15 x16 : Int) (k1 : Int → Option α) : Option α := f22_0g f31_0 f42_0 α x1 x2 x3 x4 x5 x6 x7 x8 x9 x10 x11 x12 x13 x14 x15 x16 k1
def pa22_0 : PT (List DV) := pA [pV true [(dI .i64), (dI .i64), (dI .i64), (dI .i64), (dI .i64), (dI .i64), (dI .i64), (dI .i64), (dI .i64), (dI .i64)], pV true [(dI .i64), (dI .i64), (dI .i64), (dI .i64), (dI .i64), (dI .i64)]]
def Fn22_0 (v : Tf22_0) (α : Type) (k : List RV → Option α) : Int → Int → Int → Int → Int → Int → Int → Int → Int → Int → Int → Int → Int → Int → Int → Int → Option α := fun x1 x2 x3 x4 x5 x6 x7 x8 x9 x10 x11 x12 x13 x14 x15 x16 => v α x1 x2 x3 x4 x5 x6 x7 x8 x9 x10 x11 x12 x13 x14 x15 x16 (fun (y1 : Int) => ur22_0_0 k y1)
noncomputable def cm22_0g  : MCode := (.seq (.region r22_2 [] (tO [2, 3])) (.seq (.seq (.region r22_5 [] (tO [3, 5])) (.seq (.region r22_7 [] (tO [3, 5, 9])) (.cond (.tmp 9) (.seq (.region r22_10 [] (tO [4])) .ret) .skip))) (.seq (.region r22_12 [] (tO [4])) .ret)))
noncomputable def cm22_0 : MCode := cm22_0g 
theorem gm22_0 : cm22_0.Good Try.prog E22_0 sh22 := ⟨trivial, ⟨⟨trivial, ⟨trivial, ⟨⟨trivial, trivial⟩, trivial⟩⟩⟩, ⟨trivial, trivial⟩⟩⟩
theorem fm22_0g (vf31_0 : Tf31_0) (vf42_0 : Tf42_0)  (α : Type) (k : List RV → Option α) : Fn22_0 (f22_0g vf31_0 vf42_0) α k = pa22_0.unc fun ds => fnM Try.prog (E22_0g vf31_0 vf42_0) sh22 (cm22_0g ) rs22 k ds := by kernel_rfl
theorem fm22_0 : ∀ (α : Type) (k : List RV → Option α), Fn22_0 f22_0 α k = pa22_0.unc fun ds => fnM Try.prog E22_0 sh22 cm22_0 rs22 k ds := fm22_0g f31_0 f42_0
theorem is22 : FnIs Try.prog 22 nt22 tr22 tl22 cm22_0.erase rs22 := ⟨Try.f22, Try.func22, rfl, by kernel_rfl, by kernel_rfl, by kernel_rfl⟩
theorem io22_0 : InstOk Try.prog 22 nt22 ⟨pa22_0, Fn22_0 f22_0⟩ := inst_ok eo22_0 followsTry is22 ⟨⟨sh22, cm22_0, by kernel_rfl, gm22_0, fm22_0⟩⟩
abbrev nt7 : Nat := 122
def sh7 : List (Nat × List Sh) := [(17, [.int .i64, .int .i64, .int .i64, .int .i64, .int .i64, .int .i64, .int .i64, .int .i64, .int .i64, .int .i64]), (18, [.int .i64, .int .i64, .int .i64, .int .i64, .int .i64, .int .i64]), (25, [.int .i64, .int .i64, .int .i64, .int .i64, .int .i64, .int .i64, .int .i64, .int .i64, .int .i64]), (53, [.int .i64]), (59, [.int .i64]), (66, [.int .i64]), (72, [.int .i64]), (79, [.int .i64]), (81, [.int .i64]), (84, [.int .i64]), (86, [.int .i64]), (90, [.int .i64]), (92, [.int .i64]), (110, [.int .i64]), (114, [.int .i64, .int .i64, .int .i64, .int .i64, .int .i64, .int .i64, .int .i64, .int .i64, .int .i64]), (115, [.int .i64, .int .i64, .int .i64, .int .i64, .int .i64, .int .i64]), (117, [.int .i64])]
def r7_2 : List AOper := [oO 2 (.box (.tmp 0)), oO 3 (.box (.tmp 1)), oO 4 (.alloc [(cI 0), (cI 0), (cI 0), (cI 0), (cI 0), (cI 0)]), oO 5 (.mv (kI 0))]
def r7_5 : List AOper := [oO 17 (.load true 10 (.tmp 2)), oO 18 (.load true 6 (.tmp 3)), oO 19 (.call 22 [(.tmp 17), (.tmp 18)]), oM 6 19]
def r7_7 : List AOper := [oM 20 6, oO 21 (.bin .neq 30 (.tmp 20) (kI 0))]
def r7_10 : List AOper := [oO 22 (.build [(cI 0), (cI 0), (cI 0), (cI 0), (cI 0), (cI 0)] []), oM 23 6, oD (.store 6 (.tmp 4) (.tmp 22)), oM 5 23]
def r7_12 : List AOper := [oO 7 (.alloc [(cI 0), (cI 0), (cI 0), (cI 0), (cI 0), (cI 0), (cI 0), (cI 0), (cI 0)])]
def r7_14 : List AOper := [oO 24 (.faddr 0 (.tmp 2)), oO 25 (.load true 9 (.tmp 24)), oO 8 (.alloc [(cI 0), (cI 0), (cI 0), (cI 0), (cI 0), (cI 0), (cI 0), (cI 0), (cI 0)]), oD (.store 9 (.tmp 8) (.tmp 25))]
def r7_17 : List AOper := [oO 26 (.mv (kI 0))]
def td7_19 : Option Tidy := (tO [2, 3, 4, 7, 8, 26])
def r7_21 : List AOper := [oO 27 (.bin .lss 3 (.tmp 26) (kI 3))]
def r7_27 : List AOper := [oM 28 26, oM 9 28]
def r7_29 : List AOper := [oO 29 (.mv (kI 0))]
def td7_31 : Option Tidy := (tO [2, 3, 4, 7, 8, 9, 26, 29])
def r7_33 : List AOper := [oO 30 (.bin .lss 3 (.tmp 29) (kI 3))]
def r7_39 : List AOper := [oM 31 29, oM 10 31]
def r7_41 : List AOper := [oM 32 10, oO 33 (.bin .add 3 (.tmp 32) (kI 1)), oO 34 (.bin .rem 3 (.tmp 33) (kI 3)), oM 35 10, oO 36 (.bin .add 3 (.tmp 35) (kI 2)), oO 37 (.bin .rem 3 (.tmp 36) (kI 3)), oM 38 9, oO 39 (.bin .add 3 (.tmp 38) (kI 1)), oO 40 (.bin .rem 3 (.tmp 39) (kI 3)), oM 41 9, oO 42 (.bin .add 3 (.tmp 41) (kI 2)), oO 43 (.bin .rem 3 (.tmp 42) (kI 3)), oM 11 34, oM 12 37, oM 13 40, oM 14 43]
def r7_42 : List AOper := [oM 44 9, oO 45 (.bin .mul 3 (kI 3) (.tmp 44)), oM 46 10, oO 47 (.bin .add 3 (.tmp 45) (.tmp 46)), oM 48 11, oO 49 (.bin .mul 3 (kI 3) (.tmp 48)), oM 50 13, oO 51 (.bin .add 3 (.tmp 49) (.tmp 50)), oO 52 (.iaddr 1 (some 9) (.tmp 8) (.tmp 51)), oO 53 (.load false 1 (.tmp 52)), oM 54 12, oO 55 (.bin .mul 3 (kI 3) (.tmp 54)), oM 56 14, oO 57 (.bin .add 3 (.tmp 55) (.tmp 56)), oO 58 (.iaddr 1 (some 9) (.tmp 8) (.tmp 57)), oO 59 (.load false 1 (.tmp 58)), oO 60 (.bin .mul 3 (.tmp 53) (.tmp 59)), oM 61 11, oO 62 (.bin .mul 3 (kI 3) (.tmp 61)), oM 63 14, oO 64 (.bin .add 3 (.tmp 62) (.tmp 63)), oO 65 (.iaddr 1 (some 9) (.tmp 8) (.tmp 64)), oO 66 (.load false 1 (.tmp 65)), oM 67 12, oO 68 (.bin .mul 3 (kI 3) (.tmp 67)), oM 69 13, oO 70 (.bin .add 3 (.tmp 68) (.tmp 69)), oO 71 (.iaddr 1 (some 9) (.tmp 8) (.tmp 70)), oO 72 (.load false 1 (.tmp 71)), oO 73 (.bin .mul 3 (.tmp 66) (.tmp 72)), oO 74 (.bin .sub 3 (.tmp 60) (.tmp 73)), oO 75 (.iaddr 1 (some 9) (.tmp 7) (.tmp 47)), oD (.store 1 (.tmp 75) (.tmp 74))]
def r7_43 : List AOper := [oO 76 (.bin .add 3 (.tmp 29) (kI 1)), oM 29 76]
def r7_44 : List AOper := [oO 77 (.bin .add 3 (.tmp 26) (kI 1)), oM 26 77]
def r7_46 : List AOper := [oO 78 (.iaddr 1 (some 9) (.tmp 8) (kI 0)), oO 79 (.load false 1 (.tmp 78)), oO 80 (.iaddr 1 (some 9) (.tmp 7) (kI 0)), oO 81 (.load false 1 (.tmp 80)), oO 82 (.bin .mul 3 (.tmp 79) (.tmp 81)), oO 83 (.iaddr 1 (some 9) (.tmp 8) (kI 1)), oO 84 (.load false 1 (.tmp 83)), oO 85 (.iaddr 1 (some 9) (.tmp 7) (kI 3)), oO 86 (.load false 1 (.tmp 85)), oO 87 (.bin .mul 3 (.tmp 84) (.tmp 86)), oO 88 (.bin .add 3 (.tmp 82) (.tmp 87)), oO 89 (.iaddr 1 (some 9) (.tmp 8) (kI 2)), oO 90 (.load false 1 (.tmp 89)), oO 91 (.iaddr 1 (some 9) (.tmp 7) (kI 6)), oO 92 (.load false 1 (.tmp 91)), oO 93 (.bin .mul 3 (.tmp 90) (.tmp 92)), oO 94 (.bin .add 3 (.tmp 88) (.tmp 93)), oM 15 94]
def r7_50 : List AOper := [oM 96 15, oO 97 (.bin .eql 3 (.tmp 96) (kI 0)), oM 95 97]
def r7_53 : List AOper := [oO 98 (.build [(cI 0), (cI 0), (cI 0), (cI 0), (cI 0), (cI 0)] []), oD (.store 6 (.tmp 4) (.tmp 98)), oO 5 (.mv (kI 28))]
def r7_55 : List AOper := [oM 100 15, oO 101 (.bin .lss 3 (.tmp 100) (kI 0)), oM 99 101]
def r7_58 : List AOper := [oM 102 15, oO 103 (.pure (oB (.unOp .neg 3 (.tmp 102)) 3)), oM 15 103]
def r7_60 : List AOper := [oO 104 (.mv (kI 0))]
def td7_62 : Option Tidy := (tO [2, 3, 4, 7, 15, 104])
def r7_64 : List AOper := [oO 105 (.bin .lss 3 (.tmp 104) (kI 9))]
def r7_70 : List AOper := [oM 106 104, oM 16 106]
def r7_71 : List AOper := [oM 107 16, oM 108 16, oO 109 (.iaddr 1 (some 9) (.tmp 7) (.tmp 108)), oO 110 (.load false 1 (.tmp 109)), oO 111 (.pure (oB (.unOp .neg 3 (.tmp 110)) 3)), oO 112 (.iaddr 1 (some 9) (.tmp 7) (.tmp 107)), oD (.store 1 (.tmp 112) (.tmp 111))]
def r7_72 : List AOper := [oO 113 (.bin .add 3 (.tmp 104) (kI 1)), oM 104 113]
def r7_74 : List AOper := [oO 114 (.load true 9 (.tmp 7)), oO 115 (.load true 6 (.tmp 3)), oO 116 (.faddr 9 (.tmp 2)), oO 117 (.load false 1 (.tmp 116)), oM 118 15, oO 119 (.call 23 [(.tmp 114), (.tmp 115), (.tmp 117), (.tmp 118)]), oO 120 (.extract 0 (.tmp 119)), oO 121 (.extract 1 (.tmp 119)), oD (.store 6 (.tmp 4) (.tmp 120)), oM 5 121]
def tr7 : List (Nat × Tidy) := [tT 0 [2, 3, 4], tT 1 [2, 3, 4, 6], tT 2 [2, 3, 4, 6, 21], tT 3 [4, 5], tT 4 [2, 3, 4, 7], tT 5 [2, 3, 4, 7, 8], tT 6 [2, 3, 4, 7, 8, 26], tT 7 [2, 3, 4, 7, 8, 26, 27], tT 8 [2, 3, 4, 7, 8, 9, 26], tT 9 [2, 3, 4, 7, 8, 9, 26, 29], tT 10 [2, 3, 4, 7, 8, 9, 26, 29, 30], tT 11 [2, 3, 4, 7, 8, 9, 10, 26, 29], tT 12 [2, 3, 4, 7, 8, 9, 10, 11, 12, 13, 14, 26, 29], tT 13 [2, 3, 4, 7, 8, 9, 26, 29], tT 14 [2, 3, 4, 7, 8, 9, 26, 29], tT 15 [2, 3, 4, 7, 8, 26], tT 16 [2, 3, 4, 7, 15], tT 17 [2, 3, 4, 7, 15, 95], tT 18 [4, 5], tT 19 [2, 3, 4, 7, 15, 99], tT 20 [2, 3, 4, 7, 15], tT 21 [2, 3, 4, 7, 15, 104], tT 22 [2, 3, 4, 7, 15, 104, 105], tT 23 [2, 3, 4, 7, 15, 16, 104], tT 24 [2, 3, 4, 7, 15, 104], tT 25 [2, 3, 4, 7, 15, 104], tT 26 [4, 5]]
def tl7 : List (Nat × Tidy) := [tT 7 [2, 3, 4, 7, 8, 26], tT 10 [2, 3, 4, 7, 8, 9, 26, 29], tT 22 [2, 3, 4, 7, 15, 104]]
def rs7 : List AResV := [.cell 4 true 6, .tmp 5]
def p7_0_0 : PT St := pS [sl 2 (aV false [(cPtr 2 0)]), sl 3 (aV false [(cPtr 3 0)]), sl 4 (aV false [(cPtr 4 0)]), sl 7 (aV false [(cPtr 7 0)]), sl 15 (aV false [(cD (dI .i64))])] [eBox 2 [(cD (dI .i64)), (cD (dI .i64)), (cD (dI .i64)), (cD (dI .i64)), (cD (dI .i64)), (cD (dI .i64)), (cD (dI .i64)), (cD (dI .i64)), (cD (dI .i64)), (cD (dI .i64))], eBox 3 [(cD (dI .i64)), (cD (dI .i64)), (cD (dI .i64)), (cD (dI .i64)), (cD (dI .i64)), (cD (dI .i64))], eBox 4 [(cD (dI .i64)), (cD (dI .i64)), (cD (dI .i64)), (cD (dI .i64)), (cD (dI .i64)), (cD (dI .i64))], eBox 7 [(cD (dI .i64)), (cD (dI .i64)), (cD (dI .i64)), (cD (dI .i64)), (cD (dI .i64)), (cD (dI .i64)), (cD (dI .i64)), (cD (dI .i64)), (cD (dI .i64))]]
def u7_0_0 {β : Type} (g : St → β) : Int → Int → Int → Int → Int → Int → Int → Int → Int → Int → Int → Int → Int → Int → Int → Int → Int → Int → Int → Int → Int → Int → Int → Int → Int → Int → Int → Int → Int → Int → Int → Int → β := p7_0_0.unc g
def p7_0_1 : PT St := pS [sl 4 (aV false [(cPtr 4 0)]), sl 5 (aV false [(cD (dI .i64))])] [eBox 4 [(cD (dI .i64)), (cD (dI .i64)), (cD (dI .i64)), (cD (dI .i64)), (cD (dI .i64)), (cD (dI .i64))]]
def u7_0_1 {β : Type} (g : St → β) : Int → Int → Int → Int → Int → Int → Int → β := p7_0_1.unc g
def p7_0_2 : PT St := pS [sl 2 (aV false [(cPtr 2 0)]), sl 3 (aV false [(cPtr 3 0)]), sl 4 (aV false [(cPtr 4 0)]), sl 7 (aV false [(cPtr 7 0)]), sl 15 (aV false [(cD (dI .i64))]), sl 104 (aV false [(cD (dI .i64))]), sl 105 (aV false [(cD dB)])] [eBox 2 [(cD (dI .i64)), (cD (dI .i64)), (cD (dI .i64)), (cD (dI .i64)), (cD (dI .i64)), (cD (dI .i64)), (cD (dI .i64)), (cD (dI .i64)), (cD (dI .i64)), (cD (dI .i64))], eBox 3 [(cD (dI .i64)), (cD (dI .i64)), (cD (dI .i64)), (cD (dI .i64)), (cD (dI .i64)), (cD (dI .i64))], eBox 4 [(cD (dI .i64)), (cD (dI .i64)), (cD (dI .i64)), (cD (dI .i64)), (cD (dI .i64)), (cD (dI .i64))], eBox 7 [(cD (dI .i64)), (cD (dI .i64)), (cD (dI .i64)), (cD (dI .i64)), (cD (dI .i64)), (cD (dI .i64)), (cD (dI .i64)), (cD (dI .i64)), (cD (dI .i64))]]
def u7_0_2 {β : Type} (g : St → β) : Int → Int → Bool → Int → Int → Int → Int → Int → Int → Int → Int → Int → Int → Int → Int → Int → Int → Int → Int → Int → Int → Int → Int → Int → Int → Int → Int → Int → Int → Int → Int → Int → Int → Int → β := p7_0_2.unc g
def p7_0_3 : PT St := pS [sl 2 (aV false [(cPtr 2 0)]), sl 3 (aV false [(cPtr 3 0)]), sl 4 (aV false [(cPtr 4 0)]), sl 7 (aV false [(cPtr 7 0)]), sl 15 (aV false [(cD (dI .i64))]), sl 99 (aV false [(cD dB)])] [eBox 2 [(cD (dI .i64)), (cD (dI .i64)), (cD (dI .i64)), (cD (dI .i64)), (cD (dI .i64)), (cD (dI .i64)), (cD (dI .i64)), (cD (dI .i64)), (cD (dI .i64)), (cD (dI .i64))], eBox 3 [(cD (dI .i64)), (cD (dI .i64)), (cD (dI .i64)), (cD (dI .i64)), (cD (dI .i64)), (cD (dI .i64))], eBox 4 [(cD (dI .i64)), (cD (dI .i64)), (cD (dI .i64)), (cD (dI .i64)), (cD (dI .i64)), (cD (dI .i64))], eBox 7 [(cD (dI .i64)), (cD (dI .i64)), (cD (dI .i64)), (cD (dI .i64)), (cD (dI .i64)), (cD (dI .i64)), (cD (dI .i64)), (cD (dI .i64)), (cD (dI .i64))]]
def u7_0_3 {β : Type} (g : St → β) : Int → Bool → Int → Int → Int → Int → Int → Int → Int → Int → Int → Int → Int → Int → Int → Int → Int → Int → Int → Int → Int → Int → Int → Int → Int → Int → Int → Int → Int → Int → Int → Int → Int → β := p7_0_3.unc g
def pr7_0_0 : PT (List RV) := pRs [pR true [rD (dI .i64), rD (dI .i64), rD (dI .i64), rD (dI .i64), rD (dI .i64), rD (dI .i64)], pR false [rD (dI .i64)]]
def ur7_0_0 {β : Type} (g : List RV → β) : Int → Int → Int → Int → Int → Int → Int → β := pr7_0_0.unc g
def E7_0g (vf22_0 : Tf22_0) (vf23_0 : Tf23_0) : EnvK := EnvK.of [⟨22, nt22, [⟨pa22_0, Fn22_0 vf22_0⟩]⟩, ⟨23, nt23, [⟨pa23_0, Fn23_0 vf23_0⟩]⟩] noSeq
noncomputable def E7_0 : EnvK := E7_0g f22_0 f23_0
theorem eo7_0 : E7_0.Ok Try.prog := EnvK.of_ok noSeq_ok ⟨⟨io22_0, trivial⟩, ⟨io23_0, trivial⟩, trivial⟩
noncomputable def c7_0_47g  : MCode := (.block 4 (.seq (.region r7_50 [] (tO [2, 3, 4, 7, 15, 95])) (.cond (.tmp 95) (.seq (.region r7_53 [] (tO [4, 5])) .ret) (.seq (.region r7_55 [] (tO [2, 3, 4, 7, 15, 99])) (.cond (.tmp 99) (.seq (.region r7_58 [] (tO [2, 3, 4, 7, 15])) (.seq (.region r7_60 [] (tO [2, 3, 4, 7, 15, 104])) (.block 5 (.loopU 10 td7_62 (.seq (.region r7_64 [] (tO [2, 3, 4, 7, 15, 104, 105])) (.seq (.cond (.tmp 105) .skip (.exit 5)) (.seq (.block 6 (.seq (.region r7_70 [] (tO [2, 3, 4, 7, 15, 16, 104])) (.region r7_71 [] (tO [2, 3, 4, 7, 15, 104])))) (.region r7_72 [] (tO [2, 3, 4, 7, 15, 104]))))))))) .skip)))))
noncomputable def c7_0_47 : MCode := c7_0_47g 
theorem g7_0_47 : c7_0_47.Good Try.prog E7_0 sh7 := ⟨trivial, ⟨⟨trivial, trivial⟩, ⟨trivial, ⟨⟨trivial, ⟨trivial, ⟨⟨trivial, ⟨⟨trivial, trivial⟩, ⟨⟨trivial, trivial⟩, trivial⟩⟩⟩, by decide⟩⟩⟩, trivial⟩⟩⟩⟩
--CODE 47 0
abbrev TJ7_0_0 : Type 1 := (α : Type) → Int → Int → Int → Int → Int → Int → Int → Int → Int → Int → (Option α) → (Int → Int → Int → Int → Int → Int → Int → Int → Int → Int → Option α) → (Bool → Option α) → Option α
def J7_0_0g  (α : Type) (x18 x41 x42 x43 x44 x45 x46 x47 x48 x49 : Int) (k1 : Option α) (k2 : Int → Int → Int → Int → Int → Int → Int → Int → Int → Int → Option α) (k3 : Bool → Option α) : Option α :=
 cK (x18 == 0)
 (k1)
 (cK (decide (x18 < 0))
 (k2 (w64 (0 - x18)) (w64 (0 - x41)) (w64 (0 - x42)) (w64 (0 - x43)) (w64 (0 - x44)) (w64 (0 - x45)) (w64 (0 - x46)) (w64 (0 - x47)) (w64 (0 - x48)) (w64 (0 - x49)))
 (k3 (decide (x18 < 0))))
noncomputable def J7_0_0 (α : Type) (x18 x41 x42 x43 x44 x45 x46 x47 x48 x49 : Int) (k1 : Option α) (k2 : Int → Int → Int → Int → Int → Int → Int → Int → Int → Int → Option α) (k3 : Bool → Option α) : Option α := J7_0_0g  α x18 x41 x42 x43 x44 x45 x46 x47 x48 x49 k1 k2 k3
def F7_0_0 (v : TJ7_0_0) (α : Type) (K : Exit → St → Option α) : Int → Int → Int → Int → Int → Int → Int → Int → Int → Int → Int → Int → Int → Int → Int → Int → Int → Int → Int → Int → Int → Int → Int → Int → Int → Int → Int → Int → Int → Int → Int → Int → Option α := fun x18 x19 x20 x21 x22 x23 x24 x25 x26 x27 x28 x29 x30 x31 x32 x33 x34 x35 x36 x37 x38 x39 x40 x41 x42 x43 x44 x45 x46 x47 x48 x49 => v α x18 x41 x42 x43 x44 x45 x46 x47 x48 x49 (u7_0_1 (K .ret) 28 0 0 0 0 0 0) (fun (y1 : Int) (y2 : Int) (y3 : Int) (y4 : Int) (y5 : Int) (y6 : Int) (y7 : Int) (y8 : Int) (y9 : Int) (y10 : Int) => u7_0_2 (K .normal) y1 9 false x19 x20 x21 x22 x23 x24 x25 x26 x27 x28 x29 x30 x31 x32 x33 x34 x35 x36 x37 x38 x39 x40 y2 y3 y4 y5 y6 y7 y8 y9 y10) (fun (y1 : Bool) => u7_0_3 (K .normal) x18 y1 x19 x20 x21 x22 x23 x24 x25 x26 x27 x28 x29 x30 x31 x32 x33 x34 x35 x36 x37 x38 x39 x40 x41 x42 x43 x44 x45 x46 x47 x48 x49) 
theorem m7_0_0g (vf22_0 : Tf22_0) (vf23_0 : Tf23_0)  (α : Type) (K : Exit → St → Option α) : F7_0_0 (J7_0_0g ) α K = p7_0_0.unc fun σ => runM Try.prog (E7_0g vf22_0 vf23_0) sh7 (c7_0_47g ) K σ := by kernel_rfl
theorem m7_0_0 : ∀ (α : Type) (K : Exit → St → Option α), F7_0_0 J7_0_0 α K = p7_0_0.unc fun σ => runM Try.prog E7_0 sh7 c7_0_47 K σ := m7_0_0g f22_0 f23_0
abbrev Tf7_0 : Type 1 := (α : Type) → Int → Int → Int → Int → Int → Int → Int → Int → Int → Int → Int → Int → Int → Int → Int → Int → (Int → Int → Int → Int → Int → Int → Int → Option α) → Option α
def f7_0g (vJ7_0_0 : TJ7_0_0) (vf22_0 : Tf22_0) (vf23_0 : Tf23_0) (α : Type) (x1 x2 x3 x4 x5 x6 x7 x8 x9 x10 x11 x12 x13 x14 x15 x16 : Int) (k1 : Int → Int → Int → Int → Int → Int → Int → Option α) : Option α :=
 vf22_0 α x1 x2 x3 x4 x5 x6 x7 x8 x9 x10 x11 x12 x13 x14 x15 x16
 (fun x17 => cK (x17 != 0)
 (k1 0 0 0 0 0 0 x17)
 (vJ7_0_0 α (w64 ((w64 ((w64 (x1 * (w64 ((w64 (x5 * x9)) - (w64 (x6 * x8)))))) + (w64 (x2 * (w64 ((w64 (x6 * x7)) - (w64 (x4 * x9)))))))) + (w64 (x3 * (w64 ((w64 (x4 * x8)) - (w64 (x5 * x7)))))))) (w64 ((w64 (x5 * x9)) - (w64 (x6 * x8)))) (w64 ((w64 (x8 * x3)) - (w64 (x9 * x2)))) (w64 ((w64 (x2 * x6)) - (w64 (x3 * x5)))) (w64 ((w64 (x6 * x7)) - (w64 (x4 * x9)))) (w64 ((w64 (x9 * x1)) - (w64 (x7 * x3)))) (w64 ((w64 (x3 * x4)) - (w64 (x1 * x6)))) (w64 ((w64 (x4 * x8)) - (w64 (x5 * x7)))) (w64 ((w64 (x7 * x2)) - (w64 (x8 * x1)))) (w64 ((w64 (x1 * x5)) - (w64 (x2 * x4))))
 (k1 0 0 0 0 0 0 28)
 (fun x51 x52 x53 x54 x55 x56 x57 x58 x59 x60 => vf23_0 α x52 x53 x54 x55 x56 x57 x58 x59 x60 x11 x12 x13 x14 x15 x16 x10 x51
 (fun x63 x64 x65 x66 x67 x68 x69 => k1 x63 x64 x65 x66 x67 x68 x69))
 (fun x61 => vf23_0 α (w64 ((w64 (x5 * x9)) - (w64 (x6 * x8)))) (w64 ((w64 (x8 * x3)) - (w64 (x9 * x2)))) (w64 ((w64 (x2 * x6)) - (w64 (x3 * x5)))) (w64 ((w64 (x6 * x7)) - (w64 (x4 * x9)))) (w64 ((w64 (x9 * x1)) - (w64 (x7 * x3)))) (w64 ((w64 (x3 * x4)) - (w64 (x1 * x6)))) (w64 ((w64 (x4 * x8)) - (w64 (x5 * x7)))) (w64 ((w64 (x7 * x2)) - (w64 (x8 * x1)))) (w64 ((w64 (x1 * x5)) - (w64 (x2 * x4)))) x11 x12 x13 x14 x15 x16 x10 (w64 ((w64 ((w64 (x1 * (w64 ((w64 (x5 * x9)) - (w64 (x6 * x8)))))) + (w64 (x2 * (w64 ((w64 (x6 * x7)) - (w64 (x4 * x9)))))))) + (w64 (x3 * (w64 ((w64 (x4 * x8)) - (w64 (x5 * x7))))))))
 (fun x70 x71 x72 x73 x74 x75 x76 => k1 x70 x71 x72 x73 x74 x75 x76))))
noncomputable def f7_0 (α : Type) (x1 x2 x3 x4 x5 x6 x7 x8 x9 x10 x11 x12 x13 x14 x15 x16 : Int) (k1 : Int → Int → Int → Int → Int → Int → Int → Option α) : Option α := f7_0g J7_0_0 f22_0 f23_0 α x1 x2 x3 x4 x5 x6 x7 x8 x9 x10 x11 x12 x13 x14 x15 x16 k1
def pa7_0 : PT (List DV) := pA [pV true [(dI .i64), (dI .i64), (dI .i64), (dI .i64), (dI .i64), (dI .i64), (dI .i64), (dI .i64), (dI .i64), (dI .i64)], pV true [(dI .i64), (dI .i64), (dI .i64), (dI .i64), (dI .i64), (dI .i64)]]
def Fn7_0 (v : Tf7_0) (α : Type) (k : List RV → Option α) : Int → Int → Int → Int → Int → Int → Int → Int → Int → Int → Int → Int → Int → Int → Int → Int → Option α := fun x1 x2 x3 x4 x5 x6 x7 x8 x9 x10 x11 x12 x13 x14 x15 x16 => v α x1 x2 x3 x4 x5 x6 x7 x8 x9 x10 x11 x12 x13 x14 x15 x16 (fun (y1 : Int) (y2 : Int) (y3 : Int) (y4 : Int) (y5 : Int) (y6 : Int) (y7 : Int) => ur7_0_0 k y1 y2 y3 y4 y5 y6 y7)
noncomputable def cm7_0g (vJ7_0_0 : TJ7_0_0) : MCode := (.seq (.region r7_2 [] (tO [2, 3, 4])) (.seq (.seq (.region r7_5 [] (tO [2, 3, 4, 6])) (.seq (.region r7_7 [] (tO [2, 3, 4, 6, 21])) (.cond (.tmp 21) (.seq (.region r7_10 [] (tO [4, 5])) .ret) .skip))) (.seq (.region r7_12 [] (tO [2, 3, 4, 7])) (.seq (.region r7_14 [] (tO [2, 3, 4, 7, 8])) (.seq (.seq (.region r7_17 [] (tO [2, 3, 4, 7, 8, 26])) (.block 0 (.loopU 4 td7_19 (.seq (.region r7_21 [] (tO [2, 3, 4, 7, 8, 26, 27])) (.seq (.cond (.tmp 27) .skip (.exit 0)) (.seq (.block 1 (.seq (.region r7_27 [] (tO [2, 3, 4, 7, 8, 9, 26])) (.seq (.region r7_29 [] (tO [2, 3, 4, 7, 8, 9, 26, 29])) (.block 2 (.loopU 4 td7_31 (.seq (.region r7_33 [] (tO [2, 3, 4, 7, 8, 9, 26, 29, 30])) (.seq (.cond (.tmp 30) .skip (.exit 2)) (.seq (.block 3 (.seq (.region r7_39 [] (tO [2, 3, 4, 7, 8, 9, 10, 26, 29])) (.seq (.region r7_41 [] (tO [2, 3, 4, 7, 8, 9, 10, 11, 12, 13, 14, 26, 29])) (.region r7_42 [] (tO [2, 3, 4, 7, 8, 9, 26, 29]))))) (.region r7_43 [] (tO [2, 3, 4, 7, 8, 9, 26, 29])))))))))) (.region r7_44 [] (tO [2, 3, 4, 7, 8, 26])))))))) (.seq (.region r7_46 [] (tO [2, 3, 4, 7, 15])) (.seq (.mark [⟨p7_0_0, F7_0_0 vJ7_0_0⟩] c7_0_47) (.seq (.region r7_74 [] (tO [4, 5])) .ret))))))))
noncomputable def cm7_0 : MCode := cm7_0g J7_0_0
theorem gm7_0 : cm7_0.Good Try.prog E7_0 sh7 := ⟨trivial, ⟨⟨trivial, ⟨trivial, ⟨⟨trivial, trivial⟩, trivial⟩⟩⟩, ⟨trivial, ⟨trivial, ⟨⟨trivial, ⟨⟨trivial, ⟨⟨trivial, trivial⟩, ⟨⟨trivial, ⟨trivial, ⟨⟨trivial, ⟨⟨trivial, trivial⟩, ⟨⟨trivial, ⟨trivial, trivial⟩⟩, trivial⟩⟩⟩, by decide⟩⟩⟩, trivial⟩⟩⟩, by decide⟩⟩, ⟨trivial, ⟨⟨g7_0_47, m7_0_0, trivial⟩, ⟨trivial, trivial⟩⟩⟩⟩⟩⟩⟩⟩
theorem fm7_0g (vf22_0 : Tf22_0) (vf23_0 : Tf23_0) (vJ7_0_0 : TJ7_0_0) (α : Type) (k : List RV → Option α) : Fn7_0 (f7_0g vJ7_0_0 vf22_0 vf23_0) α k = pa7_0.unc fun ds => fnM Try.prog (E7_0g vf22_0 vf23_0) sh7 (cm7_0g vJ7_0_0) rs7 k ds := by kernel_rfl
theorem fm7_0 : ∀ (α : Type) (k : List RV → Option α), Fn7_0 f7_0 α k = pa7_0.unc fun ds => fnM Try.prog E7_0 sh7 cm7_0 rs7 k ds := fm7_0g f22_0 f23_0 J7_0_0
theorem is7 : FnIs Try.prog 7 nt7 tr7 tl7 cm7_0.erase rs7 := ⟨Try.f7, Try.func7, rfl, by kernel_rfl, by kernel_rfl, by kernel_rfl⟩
theorem io7_0 : InstOk Try.prog 7 nt7 ⟨pa7_0, Fn7_0 f7_0⟩ := inst_ok eo7_0 followsTry is7 ⟨⟨sh7, cm7_0, by kernel_rfl, gm7_0, fm7_0⟩⟩
abbrev nt6 : Nat := 22
def sh6 : List (Nat × List Sh) := [(7, [.int .i64, .int .i64, .int .i64, .int .i64, .int .i64, .int .i64, .int .i64, .int .i64, .int .i64, .int .i64]), (8, [.int .i64, .int .i64, .int .i64, .int .i64, .int .i64, .int .i64]), (15, [.int .i64, .int .i64, .int .i64, .int .i64, .int .i64, .int .i64, .int .i64, .int .i64, .int .i64]), (16, [.int .i64, .int .i64, .int .i64, .int .i64, .int .i64, .int .i64]), (18, [.int .i64])]
def r6_2 : List AOper := [oO 2 (.box (.tmp 0)), oO 3 (.box (.tmp 1)), oO 4 (.alloc [(cI 0), (cI 0), (cI 0), (cI 0), (cI 0), (cI 0)]), oO 5 (.mv (kI 0))]
def r6_5 : List AOper := [oO 7 (.load true 10 (.tmp 2)), oO 8 (.load true 6 (.tmp 3)), oO 9 (.call 22 [(.tmp 7), (.tmp 8)]), oM 6 9]
def r6_7 : List AOper := [oM 10 6, oO 11 (.bin .neq 30 (.tmp 10) (kI 0))]
def r6_10 : List AOper := [oO 12 (.build [(cI 0), (cI 0), (cI 0), (cI 0), (cI 0), (cI 0)] []), oM 13 6, oD (.store 6 (.tmp 4) (.tmp 12)), oM 5 13]
def r6_12 : List AOper := [oO 14 (.faddr 0 (.tmp 2)), oO 15 (.load true 9 (.tmp 14)), oO 16 (.load true 6 (.tmp 3)), oO 17 (.faddr 9 (.tmp 2)), oO 18 (.load false 1 (.tmp 17)), oO 19 (.call 23 [(.tmp 15), (.tmp 16), (kI 1), (.tmp 18)]), oO 20 (.extract 0 (.tmp 19)), oO 21 (.extract 1 (.tmp 19)), oD (.store 6 (.tmp 4) (.tmp 20)), oM 5 21]
def tr6 : List (Nat × Tidy) := [tT 0 [2, 3, 4], tT 1 [2, 3, 4, 6], tT 2 [2, 3, 4, 6, 11], tT 3 [4, 5], tT 4 [4, 5]]
def tl6 : List (Nat × Tidy) := []
def rs6 : List AResV := [.cell 4 true 6, .tmp 5]
def pr6_0_0 : PT (List RV) := pRs [pR true [rD (dI .i64), rD (dI .i64), rD (dI .i64), rD (dI .i64), rD (dI .i64), rD (dI .i64)], pR false [rD (dI .i64)]]
def ur6_0_0 {β : Type} (g : List RV → β) : Int → Int → Int → Int → Int → Int → Int → β := pr6_0_0.unc g
def E6_0g (vf22_0 : Tf22_0) (vf23_0 : Tf23_0) : EnvK := EnvK.of [⟨22, nt22, [⟨pa22_0, Fn22_0 vf22_0⟩]⟩, ⟨23, nt23, [⟨pa23_0, Fn23_0 vf23_0⟩]⟩] noSeq
noncomputable def E6_0 : EnvK := E6_0g f22_0 f23_0
theorem eo6_0 : E6_0.Ok Try.prog := EnvK.of_ok noSeq_ok ⟨⟨io22_0, trivial⟩, ⟨io23_0, trivial⟩, trivial⟩
abbrev Tf6_0 : Type 1 := (α : Type) → Int → Int → Int → Int → Int → Int → Int → Int → Int → Int → Int → Int → Int → Int → Int → Int → (Int → Int → Int → Int → Int → Int → Int → Option α) → Option α
def f6_0g (vf22_0 : Tf22_0) (vf23_0 : Tf23_0) (α : Type) (x1 x2 x3 x4 x5 x6 x7 x8 x9 x10 x11 x12 x13 x14 x15 x16 : Int) (k1 : Int → Int → Int → Int → Int → Int → Int → Option α) : Option α :=
 vf22_0 α x1 x2 x3 x4 x5 x6 x7 x8 x9 x10 x11 x12 x13 x14 x15 x16
 (fun x17 => cK (x17 != 0)
 (k1 0 0 0 0 0 0 x17)
 (vf23_0 α x1 x2 x3 x4 x5 x6 x7 x8 x9 x11 x12 x13 x14 x15 x16 1 x10
 (fun x18 x19 x20 x21 x22 x23 x24 => k1 x18 x19 x20 x21 x22 x23 x24)))
noncomputable def f6_0 (α : Type) (x1 x2 x3 x4 x5 x6 x7 x8 x9 x10 x11 x12 x13 x14 x15 x16 : Int) (k1 : Int → Int → Int → Int → Int → Int → Int → Option α) : Option α := f6_0g f22_0 f23_0 α x1 x2 x3 x4 x5 x6 x7 x8 x9 x10 x11 x12 x13 x14 x15 x16 k1
def pa6_0 : PT (List DV) := pA [pV true [(dI .i64), (dI .i64), (dI .i64), (dI .i64), (dI .i64), (dI .i64), (dI .i64), (dI .i64), (dI .i64), (dI .i64)], pV true [(dI .i64), (dI .i64), (dI .i64), (dI .i64), (dI .i64), (dI .i64)]]
def Fn6_0 (v : Tf6_0) (α : Type) (k : List RV → Option α) : Int → Int → Int → Int → Int → Int → Int → Int → Int → Int → Int → Int → Int → Int → Int → Int → Option α := fun x1 x2 x3 x4 x5 x6 x7 x8 x9 x10 x11 x12 x13 x14 x15 x16 => v α x1 x2 x3 x4 x5 x6 x7 x8 x9 x10 x11 x12 x13 x14 x15 x16 (fun (y1 : Int) (y2 : Int) (y3 : Int) (y4 : Int) (y5 : Int) (y6 : Int) (y7 : Int) => ur6_0_0 k y1 y2 y3 y4 y5 y6 y7)
noncomputable def cm6_0g  : MCode := (.seq (.region r6_2 [] (tO [2, 3, 4])) (.seq (.seq (.region r6_5 [] (tO [2, 3, 4, 6])) (.seq (.region r6_7 [] (tO [2, 3, 4, 6, 11])) (.cond (.tmp 11) (.seq (.region r6_10 [] (tO [4, 5])) .ret) .skip))) (.seq (.region r6_12 [] (tO [4, 5])) .ret)))
noncomputable def cm6_0 : MCode := cm6_0g 
theorem gm6_0 : cm6_0.Good Try.prog E6_0 sh6 := ⟨trivial, ⟨⟨trivial, ⟨trivial, ⟨⟨trivial, trivial⟩, trivial⟩⟩⟩, ⟨trivial, trivial⟩⟩⟩
theorem fm6_0g (vf22_0 : Tf22_0) (vf23_0 : Tf23_0)  (α : Type) (k : List RV → Option α) : Fn6_0 (f6_0g vf22_0 vf23_0) α k = pa6_0.unc fun ds => fnM Try.prog (E6_0g vf22_0 vf23_0) sh6 (cm6_0g ) rs6 k ds := by kernel_rfl
theorem fm6_0 : ∀ (α : Type) (k : List RV → Option α), Fn6_0 f6_0 α k = pa6_0.unc fun ds => fnM Try.prog E6_0 sh6 cm6_0 rs6 k ds := fm6_0g f22_0 f23_0
theorem is6 : FnIs Try.prog 6 nt6 tr6 tl6 cm6_0.erase rs6 := ⟨Try.f6, Try.func6, rfl, by kernel_rfl, by kernel_rfl, by kernel_rfl⟩
theorem io6_0 : InstOk Try.prog 6 nt6 ⟨pa6_0, Fn6_0 f6_0⟩ := inst_ok eo6_0 followsTry is6 ⟨⟨sh6, cm6_0, by kernel_rfl, gm6_0, fm6_0⟩⟩
end Go.AM.K
