/- GrowStops, as a tied card: for every input the statement is true, and the input reads as it did. The library's variables that the row lists are tied to the program's text by the given tie. -/
import Derived.Test.YtnhkllkecbmchaaGreatDoorTZ3r
import Derived.Test.YtnhkllkecbmchaaGreatDoorCards
import Derived.Test.YtnhkllkecbmchaaGreatDoorTie
import Derived.SevenTiedAt
namespace Go.Proofs.YtnhkllkecbmchaaGreatDoor.Td3
open Go
theorem wfText : Rows.growStopsRow.wfByText (OpenSpec.ofChange Rows.growStopsSpec) = true := by kernel_rfl
theorem mainIs : Tryz.pinned.checked.prog.mainIs = some (true, "d765ac9cd652033045d7226dd3545e8c0ab4ac2d6ce2062dc04642a30eaf47c4".toList) := by kernel_rfl
theorem looks0 : true = Tryz.pinned.checked.prog.looks [] := by kernel_rfl
theorem goes0 : false = Rows.growStopsRow.goesBy Tryz.pinned.checked.prog := by kernel_rfl
theorem stand : ([25, 9].all fun u => !Tryz.prog.wantsStandIn u) = true := by kernel_rfl
theorem growStops_card_holds : Rows.GrowStopsCardSaid :=
  Claim7.holds_tied_plain_at .later [] [.data, .data, .data, .data, .sentinel, .sentinel, .pinned] true (true, "d765ac9cd652033045d7226dd3545e8c0ab4ac2d6ce2062dc04642a30eaf47c4") true
    growStops_holds (fun _ h => by cases h) wfText (fun _ h => by cases h) growStops_row_tie rfl ⟨rfl, rfl⟩ mainIs rfl
    (fun f fn hf hfn => by
      obtain rfl : f = 3 := Option.some.inj (named.symm.trans hf) |>.symm
      obtain rfl : fn = Tryz.f3 := (Option.some.inj (Tryz.func3.symm.trans hfn)).symm
      exact ⟨looks0, fun j t ht => by
        rw [Tryz.params3] at ht
        have hm : t ∈ [25, 9] := by simpa using Array.mem_of_getElem? ht
        exact (show Tryz.prog.wantsStandIn t = false by simpa using List.all_eq_true.1 stand t hm)⟩)
    goes0
#print axioms growStops_card_holds
end Go.Proofs.YtnhkllkecbmchaaGreatDoor.Td3
