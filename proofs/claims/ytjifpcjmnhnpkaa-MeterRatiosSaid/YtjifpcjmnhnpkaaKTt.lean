/- Printed by KGen. -/
import Derived.Test.YtjifpcjmnhnpkaaKTr
import Derived.Test.YtjifpcjmnhnpkaaAcX
namespace Go.AM.K
open Go.Proofs
set_option maxRecDepth 100000
set_option linter.unusedVariables false

/-! ### F4 etalon/etalonlaw06.MeterRatios -/
abbrev nt4 : Nat := 31
def sh4 : List (Nat × List Sh) := [(10, [.int .i64, .int .i64, .int .i64, .int .i64, .int .i64, .int .i64]), (14, [.int .i64, .int .i64, .int .i64, .int .i64, .int .i64, .int .i64]), (19, [.int .i64, .int .i64, .int .i64, .int .i64, .int .i64, .int .i64]), (27, [.int .i64, .int .i64, .int .i64, .int .i64]), (28, [.int .i64, .int .i64, .int .i64, .int .i64])]
def r4_2 : List AOper := [oO 1 (.box (.tmp 0)), oO 2 (.mv (.const (.bool false)))]
def r4_5 : List AOper := [oO 7 (.call 15 []), oO 8 (.pure (oB (.unOp .not 4 (.tmp 7)) 4))]
def r4_8 : List AOper := [oO 2 (.mv (.const (.bool false)))]
def r4_10 : List AOper := [oO 10 (.load true 6 (.tmp 1)), oO 11 (.call 23 [(.tmp 10)]), oM 9 11, oO 12 (.extract 0 (.tmp 9)), oO 13 (.extract 1 (.tmp 9)), oO 3 (.alloc [(.d (.v (.int .i64 0))), (.d (.v (.int .i64 0))), (.d (.v (.int .i64 0))), (.d (.v (.int .i64 0)))]), ⟨none, (.store 4 (.tmp 3) (.tmp 12)), none⟩, oM 4 13]
def r4_12 : List AOper := [oO 14 (.load true 6 (.tmp 1)), oO 15 (.call 24 [(.tmp 14)]), oM 5 15]
def r4_14 : List AOper := [oO 6 (.alloc [(.d (.v (.int .i64 0))), (.d (.v (.int .i64 0))), (.d (.v (.int .i64 0))), (.d (.v (.int .i64 0)))])]
def r4_17 : List AOper := [oM 16 5, oO 17 (.bin .eql 3 (.tmp 16) (.const (.int .i64 0)))]
def r4_19 : List AOper := [oO 19 (.load true 6 (.tmp 1)), oO 20 (.call 25 [(.tmp 19)]), oM 18 20, oO 21 (.extract 0 (.tmp 18)), oO 22 (.extract 1 (.tmp 18)), ⟨none, (.store 4 (.tmp 6) (.tmp 21)), none⟩, oM 5 22]
def r4_21 : List AOper := [oM 23 4, oM 24 5, oO 25 (.bin .eql 3 (.tmp 23) (.tmp 24)), oM 26 25, ⟨(some 27), (.load true 4 (.tmp 3)), (some (26, true))⟩, ⟨(some 28), (.load true 4 (.tmp 6)), (some (26, true))⟩, ⟨(some 29), (.bin .eql 45 (.tmp 27) (.tmp 28)), (some (26, true))⟩, oO 30 (.pick (.tmp 26) (.tmp 29) (.const (.bool false))), oM 2 30]
def tr4 : List (Nat × Tidy) := [(0, ⟨[1], true, [], []⟩), (1, ⟨[1, 8], true, [], []⟩), (2, ⟨[2], true, [], []⟩), (3, ⟨[1, 3, 4], true, [], []⟩), (4, ⟨[1, 3, 4, 5], true, [], []⟩), (5, ⟨[1, 3, 4, 5, 6], true, [], []⟩), (6, ⟨[1, 3, 4, 5, 6, 17], true, [], []⟩), (7, ⟨[3, 4, 5, 6], true, [], []⟩), (8, ⟨[2], true, [], []⟩)]
def tl4 : List (Nat × Tidy) := []
def rs4 : List AResV := [.tmp 2]
def p4_0_0 : PT St := pS [sl 1 (aV false [(cPtr 1 0)]), sl 3 (aV false [(cPtr 3 0)]), sl 4 (aV false [(cD (dI .i64))]), sl 5 (aV false [(cD (dI .i64))]), sl 6 (aV false [(cPtr 6 0)])] [eBox 1 [(cD (dI .i64)), (cD (dI .i64)), (cD (dI .i64)), (cD (dI .i64)), (cD (dI .i64)), (cD (dI .i64))], eBox 3 [(cD (dI .i64)), (cD (dI .i64)), (cD (dI .i64)), (cD (dI .i64))], eBox 6 [(cD (dI .i64)), (cD (dI .i64)), (cD (dI .i64)), (cD (dI .i64))]]
def u4_0_0 {β : Type} (g : St → β) : Int → Int → Int → Int → Int → Int → Int → Int → Int → Int → Int → Int → Int → Int → Int → Int → β := p4_0_0.unc g

def p4_0_1 : PT St := pS [sl 3 (aV false [(cPtr 3 0)]), sl 4 (aV false [(cD (dI .i64))]), sl 5 (aV false [(cD (dI .i64))]), sl 6 (aV false [(cPtr 6 0)])] [eBox 3 [(cD (dI .i64)), (cD (dI .i64)), (cD (dI .i64)), (cD (dI .i64))], eBox 6 [(cD (dI .i64)), (cD (dI .i64)), (cD (dI .i64)), (cD (dI .i64))]]
def u4_0_1 {β : Type} (g : St → β) : Int → Int → Int → Int → Int → Int → Int → Int → Int → Int → β := p4_0_1.unc g

def p4_0_2 : PT St := pS [sl 1 (aV false [(cPtr 1 0)]), sl 3 (aV false [(cPtr 3 0)]), sl 4 (aV false [(cD (dI .i64))]), sl 5 (aV false [(cD (dI .i64))]), sl 6 (aV false [(cPtr 6 0)]), sl 17 (aV false [(cD dB)])] [eBox 1 [(cD (dI .i64)), (cD (dI .i64)), (cD (dI .i64)), (cD (dI .i64)), (cD (dI .i64)), (cD (dI .i64))], eBox 3 [(cD (dI .i64)), (cD (dI .i64)), (cD (dI .i64)), (cD (dI .i64))], eBox 6 [(cD (dI .i64)), (cD (dI .i64)), (cD (dI .i64)), (cD (dI .i64))]]
def u4_0_2 {β : Type} (g : St → β) : Int → Int → Bool → Int → Int → Int → Int → Int → Int → Int → Int → Int → Int → Int → Int → Int → Int → β := p4_0_2.unc g

def pr4_0_0 : PT (List RV) := pRs [pR false [rD dB]]
def ur4_0_0 {β : Type} (g : List RV → β) : Bool → β := pr4_0_0.unc g

def E4_0g (vf15_0 : Tf15_0) (vf23_0 : Tf23_0) (vf24_0 : Tf24_0) (vf25_0 : Tf25_0) : EnvK := EnvK.of [⟨15, nt15, [⟨pa15_0, Fn15_0 vf15_0⟩]⟩, ⟨23, nt23, [⟨pa23_0, Fn23_0 vf23_0⟩]⟩, ⟨24, nt24, [⟨pa24_0, Fn24_0 vf24_0⟩]⟩, ⟨25, nt25, [⟨pa25_0, Fn25_0 vf25_0⟩]⟩] noSeq
noncomputable def E4_0 : EnvK := E4_0g f15_0 f23_0 f24_0 f25_0
theorem eo4_0 : E4_0.Ok Try.prog := EnvK.of_ok noSeq_ok ⟨⟨io15_0, trivial⟩, ⟨io23_0, trivial⟩, ⟨io24_0, trivial⟩, ⟨io25_0, trivial⟩, trivial⟩

noncomputable def c4_0_15g  : MCode := (.seq (.region r4_17 [] (some ⟨[1, 3, 4, 5, 6, 17], true, [], []⟩)) (.cond (.tmp 17) (.region r4_19 [] (some ⟨[3, 4, 5, 6], true, [], []⟩)) .skip))
noncomputable def c4_0_15 : MCode := c4_0_15g 
theorem g4_0_15 : c4_0_15.Good Try.prog E4_0 sh4 := ⟨trivial, ⟨trivial, trivial⟩⟩
--CODE 15 0
abbrev TJ4_0_0 : Type 1 := (α : Type) → Int → Int → Int → Int → Int → Int → Int → (Int → Int → Int → Int → Int → Option α) → (Bool → Option α) → Option α
def J4_0_0g (vf25_0 : Tf25_0) (α : Type) (x14 : Int) (x15 : Int) (x16 : Int) (x17 : Int) (x18 : Int) (x19 : Int) (x20 : Int) (k1 : Int → Int → Int → Int → Int → Option α) (k2 : Bool → Option α) : Option α :=
 cK (x14 == 0)
 (vf25_0 α x15 x16 x17 x18 x19 x20
 (fun (x30 : Int) (x31 : Int) (x32 : Int) (x33 : Int) (x34 : Int) => k1 x34 x30 x31 x32 x33))
 (k2 (x14 == 0))
noncomputable def J4_0_0 (α : Type) (x14 : Int) (x15 : Int) (x16 : Int) (x17 : Int) (x18 : Int) (x19 : Int) (x20 : Int) (k1 : Int → Int → Int → Int → Int → Option α) (k2 : Bool → Option α) : Option α := J4_0_0g f25_0 α x14 x15 x16 x17 x18 x19 x20 k1 k2
def F4_0_0 (v : TJ4_0_0) (α : Type) (K : Exit → St → Option α) : Int → Int → Int → Int → Int → Int → Int → Int → Int → Int → Int → Int → Int → Int → Int → Int → Option α := fun x13 x14 x15 x16 x17 x18 x19 x20 x21 x22 x23 x24 x25 x26 x27 x28 => v α x14 x15 x16 x17 x18 x19 x20 (fun (y1 : Int) (y2 : Int) (y3 : Int) (y4 : Int) (y5 : Int) => u4_0_1 (K .normal) x13 y1 x21 x22 x23 x24 y2 y3 y4 y5) (fun (y1 : Bool) => u4_0_2 (K .normal) x13 x14 y1 x15 x16 x17 x18 x19 x20 x21 x22 x23 x24 x25 x26 x27 x28) 
theorem m4_0_0g (vf15_0 : Tf15_0) (vf23_0 : Tf23_0) (vf24_0 : Tf24_0) (vf25_0 : Tf25_0)  (α : Type) (K : Exit → St → Option α) : F4_0_0 (J4_0_0g vf25_0) α K = p4_0_0.unc fun σ => runM Try.prog (E4_0g vf15_0 vf23_0 vf24_0 vf25_0) sh4 (c4_0_15g ) K σ := by kernel_rfl
theorem m4_0_0 : ∀ (α : Type) (K : Exit → St → Option α), F4_0_0 J4_0_0 α K = p4_0_0.unc fun σ => runM Try.prog E4_0 sh4 c4_0_15 K σ := m4_0_0g f15_0 f23_0 f24_0 f25_0

/-- etalon/etalonlaw06.MeterRatios -/
abbrev Tf4_0 : Type 1 := (α : Type) → Int → Int → Int → Int → Int → Int → (Bool → Option α) → Option α
def f4_0g (vJ4_0_0 : TJ4_0_0) (vf15_0 : Tf15_0) (vf23_0 : Tf23_0) (vf24_0 : Tf24_0) (α : Type) (x1 : Int) (x2 : Int) (x3 : Int) (x4 : Int) (x5 : Int) (x6 : Int) (k1 : Bool → Option α) : Option α :=
 vf15_0 α 
 (vf23_0 α x1 x2 x3 x4 x5 x6
 (fun (x7 : Int) (x8 : Int) (x9 : Int) (x10 : Int) (x11 : Int) => vf24_0 α x1 x2 x3 x4 x5 x6
 (fun (x12 : Int) => vJ4_0_0 α x12 x1 x2 x3 x4 x5 x6
 (fun (x35 : Int) (x36 : Int) (x37 : Int) (x38 : Int) (x39 : Int) => cK (x11 == x35)
 (k1 (((x7 == x36) && ((x8 == x37) && true)) && (((x9 == x38) && ((x10 == x39) && true)) && true)))
 (k1 false))
 (fun (x40 : Bool) => cK (x11 == x12)
 (k1 (((x7 == 0) && ((x8 == 0) && true)) && (((x9 == 0) && ((x10 == 0) && true)) && true)))
 (k1 false)))))
noncomputable def f4_0 (α : Type) (x1 : Int) (x2 : Int) (x3 : Int) (x4 : Int) (x5 : Int) (x6 : Int) (k1 : Bool → Option α) : Option α := f4_0g J4_0_0 f15_0 f23_0 f24_0 α x1 x2 x3 x4 x5 x6 k1
def pa4_0 : PT (List DV) := pA [pV true [(dI .i64), (dI .i64), (dI .i64), (dI .i64), (dI .i64), (dI .i64)]]
def Fn4_0 (v : Tf4_0) (α : Type) (k : List RV → Option α) : Int → Int → Int → Int → Int → Int → Option α := fun x1 x2 x3 x4 x5 x6 => v α x1 x2 x3 x4 x5 x6 (fun (y1 : Bool) => ur4_0_0 k y1)
noncomputable def cm4_0g (vJ4_0_0 : TJ4_0_0) : MCode := (.seq (.region r4_2 [] (some ⟨[1], true, [], []⟩)) (.seq (.seq (.region r4_5 [] (some ⟨[1, 8], true, [], []⟩)) (.cond (.tmp 8) (.seq (.region r4_8 [] (some ⟨[2], true, [], []⟩)) .ret) .skip)) (.seq (.region r4_10 [] (some ⟨[1, 3, 4], true, [], []⟩)) (.seq (.region r4_12 [] (some ⟨[1, 3, 4, 5], true, [], []⟩)) (.seq (.region r4_14 [] (some ⟨[1, 3, 4, 5, 6], true, [], []⟩)) (.seq (.mark [⟨p4_0_0, F4_0_0 vJ4_0_0⟩] c4_0_15) (.seq (.region r4_21 [] (some ⟨[2], true, [], []⟩)) .ret)))))))
noncomputable def cm4_0 : MCode := cm4_0g J4_0_0
theorem gm4_0 : cm4_0.Good Try.prog E4_0 sh4 := ⟨trivial, ⟨⟨trivial, ⟨⟨trivial, trivial⟩, trivial⟩⟩, ⟨trivial, ⟨trivial, ⟨trivial, ⟨⟨g4_0_15, m4_0_0, trivial⟩, ⟨trivial, trivial⟩⟩⟩⟩⟩⟩⟩
theorem fm4_0g (vf15_0 : Tf15_0) (vf23_0 : Tf23_0) (vf24_0 : Tf24_0) (vf25_0 : Tf25_0) (vJ4_0_0 : TJ4_0_0) (α : Type) (k : List RV → Option α) : Fn4_0 (f4_0g vJ4_0_0 vf15_0 vf23_0 vf24_0) α k = pa4_0.unc fun ds => fnM Try.prog (E4_0g vf15_0 vf23_0 vf24_0 vf25_0) sh4 (cm4_0g vJ4_0_0) rs4 k ds := by kernel_rfl
theorem fm4_0 : ∀ (α : Type) (k : List RV → Option α), Fn4_0 f4_0 α k = pa4_0.unc fun ds => fnM Try.prog E4_0 sh4 cm4_0 rs4 k ds := fm4_0g f15_0 f23_0 f24_0 f25_0 J4_0_0

theorem is4 : FnIs Try.prog 4 nt4 tr4 tl4 cm4_0.erase rs4 := ⟨Try.f4, Try.func4, rfl, by kernel_rfl, by kernel_rfl, by kernel_rfl⟩
theorem io4_0 : InstOk Try.prog 4 nt4 ⟨pa4_0, Fn4_0 f4_0⟩ := inst_ok eo4_0 followsTry is4 ⟨⟨sh4, cm4_0, by kernel_rfl, gm4_0, fm4_0⟩⟩


end Go.AM.K
