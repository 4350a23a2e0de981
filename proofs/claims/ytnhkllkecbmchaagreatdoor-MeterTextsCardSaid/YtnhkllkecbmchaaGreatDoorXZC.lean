/- MeterTexts, as a tied card: for every input the statement is true, and the input reads as it did. The library's variables that the row lists are tied to the program's text by the given tie. -/
import Derived.Test.YtnhkllkecbmchaaGreatDoorXZ4r
import Derived.Test.YtnhkllkecbmchaaGreatDoorCards
import Derived.Test.YtnhkllkecbmchaaGreatDoorTie
import Derived.SevenTiedAt
namespace Go.Proofs.YtnhkllkecbmchaaGreatDoor.Mt4
open Go
theorem wfText:Rows.meterTextsRow.wfByText (OpenSpec.ofChange Rows.meterTextsSpec)=true:=by kernel_rfl
theorem mainIs : Tryz.pinned.checked.prog.mainIs = some (true, "d765ac9cd652033045d7226dd3545e8c0ab4ac2d6ce2062dc04642a30eaf47c4".toList) := by kernel_rfl
theorem looks0:true=Tryz.pinned.checked.prog.looks []:=by kernel_rfl
theorem goes0:false=Rows.meterTextsRow.goesBy Tryz.pinned.checked.prog:=by kernel_rfl
theorem stand:([35,9].all fun u=>!Tryz.prog.wantsStandIn u)=true:=by kernel_rfl
theorem meterTexts_card_holds:Rows.MeterTextsCardSaid:=
 Claim7.holds_tied_plain_at .later [] [.data, .data, .data, .data, .sentinel, .sentinel, .pinned] true (true, "d765ac9cd652033045d7226dd3545e8c0ab4ac2d6ce2062dc04642a30eaf47c4") true
  meterTexts_holds (fun _ h=>by cases h) wfText (fun _ h=>by cases h) meterTexts_row_tie rfl ⟨rfl,rfl⟩ mainIs rfl
  (fun f fn hf hfn=>by
   obtain rfl:f=4:=Option.some.inj (named.symm.trans hf) |>.symm
   obtain rfl:fn=Tryz.f4:=(Option.some.inj (Tryz.func4.symm.trans hfn)).symm
   exact⟨looks0,fun j t ht=>by
    rw [Tryz.params4] at ht
    have hm:t ∈ [35,9]:=by simpa using Array.mem_of_getElem? ht
    exact (show Tryz.prog.wantsStandIn t=false by simpa using List.all_eq_true.1 stand t hm)⟩)
  goes0
#print axioms meterTexts_card_holds
end Go.Proofs.YtnhkllkecbmchaaGreatDoor.Mt4
