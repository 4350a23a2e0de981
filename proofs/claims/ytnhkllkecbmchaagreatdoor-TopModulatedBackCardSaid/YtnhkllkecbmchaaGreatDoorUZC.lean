/- TopModulatedBack, as a tied card: for every input the statement is true, and the input reads as it did. The library's variables that the row lists are tied to the program's text by the given tie. -/
import Derived.Test.YtnhkllkecbmchaaGreatDoorUZ8r
import Derived.Test.YtnhkllkecbmchaaGreatDoorCards
import Derived.Test.YtnhkllkecbmchaaGreatDoorTie
import Derived.SevenTiedAt
namespace Go.Proofs.YtnhkllkecbmchaaGreatDoor.Tm8
open Go
theorem wfText : Rows.topModulatedBackRow.wfByText (OpenSpec.ofChange Rows.topModulatedBackSpec) = true := by kernel_rfl
theorem mainIs : Tryz.pinned.checked.prog.mainIs = some (true, "d765ac9cd652033045d7226dd3545e8c0ab4ac2d6ce2062dc04642a30eaf47c4".toList) := by kernel_rfl
theorem looks0 : true = Tryz.pinned.checked.prog.looks [] := by kernel_rfl
theorem goes0 : false = Rows.topModulatedBackRow.goesBy Tryz.pinned.checked.prog := by kernel_rfl
theorem stand : ([87, 93].all fun u => !Tryz.prog.wantsStandIn u) = true := by kernel_rfl
theorem topModulatedBack_card_holds : Rows.TopModulatedBackCardSaid :=
  Claim7.holds_tied_plain_at .later [] [.data, .data, .data, .data, .sentinel, .sentinel, .pinned] true (true, "d765ac9cd652033045d7226dd3545e8c0ab4ac2d6ce2062dc04642a30eaf47c4") true
    topModulatedBack_holds (fun _ h => by cases h) wfText (fun _ h => by cases h) topModulatedBack_row_tie rfl ⟨rfl, rfl⟩ mainIs rfl
    (fun f fn hf hfn => by
      obtain rfl : f = 8 := Option.some.inj (named.symm.trans hf) |>.symm
      obtain rfl : fn = Tryz.f8 := (Option.some.inj (Tryz.func8.symm.trans hfn)).symm
      exact ⟨looks0, fun j t ht => by
        rw [Tryz.params8] at ht
        have hm : t ∈ [87, 93] := by simpa using Array.mem_of_getElem? ht
        exact (show Tryz.prog.wantsStandIn t = false by simpa using List.all_eq_true.1 stand t hm)⟩)
    goes0
#print axioms topModulatedBack_card_holds
end Go.Proofs.YtnhkllkecbmchaaGreatDoor.Tm8
