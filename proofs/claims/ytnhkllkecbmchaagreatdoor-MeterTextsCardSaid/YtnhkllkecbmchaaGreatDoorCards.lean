/-
  DERIVED. GIVEN WITH THE SEED: THE CARDS: each row of YtnhkllkecbmchaaGreatDoorRows.lean that lists a variable, with what it lists TIED to the program's text (the seventh form; the later family's looks); each row that meets fmt, with fmt's text TOLD by the authors' own Lean function (tested against real Go, not proved from fmt's source: count such statements apart). THE CARD IS WHAT COUNTS. Prove the row's statement (the work); the ties are given (YtnhkllkecbmchaaGreatDoorTie.lean); close each card by the builder's one call (the guide's Derived/Test/ToyasCard.lean, 'card_holds'). Laid BY PROGRAM, IN A SANDBOX (cutbox-door.mjs). By AI agents, Wed Nov 11 2026. No macro, syntax, notation, axiom, sorry.
-/
import Derived.Test.YtnhkllkecbmchaaGreatDoorRows
import GoSem.ClaimSeven
namespace Go.Proofs.YtnhkllkecbmchaaGreatDoor
namespace Rows

/-- THE TIED CARD OF 'etalonlaw08.GrowStops'. -/
def growStopsCard : Claim7 := { stood := { row := growStopsRow, standIns := [], harness := (true, "d765ac9cd652033045d7226dd3545e8c0ab4ac2d6ce2062dc04642a30eaf47c4"), looks := true }, kinds := [], alts := [], laidByText := true, laidKinds := [.data, .data, .data, .data, .sentinel, .sentinel, .pinned], laidTests := true, laidLooks := .later }
def GrowStopsCardSaid : Prop := Claim7.holds Tryz.pinned (.plain (OpenSpec.ofChange growStopsSpec)) growStopsCard

/-- THE TIED CARD OF 'etalonlaw06.MeterTexts'. -/
def meterTextsCard : Claim7 := { stood := { row := meterTextsRow, standIns := [], harness := (true, "d765ac9cd652033045d7226dd3545e8c0ab4ac2d6ce2062dc04642a30eaf47c4"), looks := true }, kinds := [], alts := [], laidByText := true, laidKinds := [.data, .data, .data, .data, .sentinel, .sentinel, .pinned], laidTests := true, laidLooks := .later }
def MeterTextsCardSaid : Prop := Claim7.holds Tryz.pinned (.plain (OpenSpec.ofChange meterTextsSpec)) meterTextsCard

/-- THE TIED CARD OF 'etalonlaw02.GlassReads'. -/
def glassReadsCard : Claim7 := { stood := { row := glassReadsRow, standIns := [], harness := (true, "d765ac9cd652033045d7226dd3545e8c0ab4ac2d6ce2062dc04642a30eaf47c4"), looks := true }, kinds := [], alts := [], laidByText := true, laidKinds := [.data, .data, .data, .data, .sentinel, .sentinel, .pinned], laidTests := true, laidLooks := .later }
def GlassReadsCardSaid : Prop := Claim7.holds Tryz.pinned (.plain (OpenSpec.ofChange glassReadsSpec)) glassReadsCard

/-- THE TIED CARD OF 'etalonlaw02.GlassCatalogues'. -/
def glassCataloguesCard : Claim7 := { stood := { row := glassCataloguesRow, standIns := [], harness := (true, "d765ac9cd652033045d7226dd3545e8c0ab4ac2d6ce2062dc04642a30eaf47c4"), looks := true }, kinds := [], alts := [], laidByText := true, laidKinds := [.data, .data, .data, .data, .sentinel, .sentinel, .pinned], laidTests := true, laidLooks := .later }
def GlassCataloguesCardSaid : Prop := Claim7.holds Tryz.pinned (.plain (OpenSpec.ofChange glassCataloguesSpec)) glassCataloguesCard

/-- THE TIED CARD OF 'etalontop.TopTabled'. -/
def topTabledCard : Claim7 := { stood := { row := topTabledRow, standIns := [], harness := (true, "d765ac9cd652033045d7226dd3545e8c0ab4ac2d6ce2062dc04642a30eaf47c4"), looks := true }, kinds := [], alts := [], laidByText := true, laidKinds := [.data, .data, .data, .data, .sentinel, .sentinel, .pinned], laidTests := true, laidLooks := .later }
def TopTabledCardSaid : Prop := Claim7.holds Tryz.pinned (.plain (OpenSpec.ofChange topTabledSpec)) topTabledCard

/-- THE TIED CARD OF 'etalontop.TopModulatedBack'. -/
def topModulatedBackCard : Claim7 := { stood := { row := topModulatedBackRow, standIns := [], harness := (true, "d765ac9cd652033045d7226dd3545e8c0ab4ac2d6ce2062dc04642a30eaf47c4"), looks := true }, kinds := [], alts := [], laidByText := true, laidKinds := [.data, .data, .data, .data, .sentinel, .sentinel, .pinned], laidTests := true, laidLooks := .later }
def TopModulatedBackCardSaid : Prop := Claim7.holds Tryz.pinned (.plain (OpenSpec.ofChange topModulatedBackSpec)) topModulatedBackCard

/-- THE SECOND FORM's CARD OF 'etalonlaw08.GrowStops'. -/
def growStopsUptoCard : Claim7 := { stood := { row := growStopsUptoRow, standIns := [], harness := (true, "d765ac9cd652033045d7226dd3545e8c0ab4ac2d6ce2062dc04642a30eaf47c4"), looks := true }, kinds := [], alts := [], laidByText := true, laidKinds := [.data, .data, .data, .data, .sentinel, .sentinel, .pinned], laidTests := true, laidLooks := .later }
def GrowStopsUptoCardSaid : Prop := Claim7.holds Tryz.pinned (.plain (OpenSpec.upto growStopsSpec)) growStopsUptoCard

/-- THE SECOND FORM's CARD OF 'etalonlaw06.MeterTexts'. -/
def meterTextsUptoCard : Claim7 := { stood := { row := meterTextsUptoRow, standIns := [], harness := (true, "d765ac9cd652033045d7226dd3545e8c0ab4ac2d6ce2062dc04642a30eaf47c4"), looks := true }, kinds := [], alts := [], laidByText := true, laidKinds := [.data, .data, .data, .data, .sentinel, .sentinel, .pinned], laidTests := true, laidLooks := .later }
def MeterTextsUptoCardSaid : Prop := Claim7.holds Tryz.pinned (.plain (OpenSpec.upto meterTextsSpec)) meterTextsUptoCard

/-- THE SECOND FORM's CARD OF 'etalonlaw02.GlassReads'. -/
def glassReadsUptoCard : Claim7 := { stood := { row := glassReadsUptoRow, standIns := [], harness := (true, "d765ac9cd652033045d7226dd3545e8c0ab4ac2d6ce2062dc04642a30eaf47c4"), looks := true }, kinds := [], alts := [], laidByText := true, laidKinds := [.data, .data, .data, .data, .sentinel, .sentinel, .pinned], laidTests := true, laidLooks := .later }
def GlassReadsUptoCardSaid : Prop := Claim7.holds Tryz.pinned (.plain (OpenSpec.upto glassReadsSpec)) glassReadsUptoCard

/-- THE SECOND FORM's CARD OF 'etalonlaw02.GlassCatalogues'. -/
def glassCataloguesUptoCard : Claim7 := { stood := { row := glassCataloguesUptoRow, standIns := [], harness := (true, "d765ac9cd652033045d7226dd3545e8c0ab4ac2d6ce2062dc04642a30eaf47c4"), looks := true }, kinds := [], alts := [], laidByText := true, laidKinds := [.data, .data, .data, .data, .sentinel, .sentinel, .pinned], laidTests := true, laidLooks := .later }
def GlassCataloguesUptoCardSaid : Prop := Claim7.holds Tryz.pinned (.plain (OpenSpec.upto glassCataloguesSpec)) glassCataloguesUptoCard

/-- THE SECOND FORM's CARD OF 'etalontop.TopTabled'. -/
def topTabledUptoCard : Claim7 := { stood := { row := topTabledUptoRow, standIns := [], harness := (true, "d765ac9cd652033045d7226dd3545e8c0ab4ac2d6ce2062dc04642a30eaf47c4"), looks := true }, kinds := [], alts := [], laidByText := true, laidKinds := [.data, .data, .data, .data, .sentinel, .sentinel, .pinned], laidTests := true, laidLooks := .later }
def TopTabledUptoCardSaid : Prop := Claim7.holds Tryz.pinned (.plain (OpenSpec.upto topTabledSpec)) topTabledUptoCard

/-- THE SECOND FORM's CARD OF 'etalontop.TopModulatedBack'. -/
def topModulatedBackUptoCard : Claim7 := { stood := { row := topModulatedBackUptoRow, standIns := [], harness := (true, "d765ac9cd652033045d7226dd3545e8c0ab4ac2d6ce2062dc04642a30eaf47c4"), looks := true }, kinds := [], alts := [], laidByText := true, laidKinds := [.data, .data, .data, .data, .sentinel, .sentinel, .pinned], laidTests := true, laidLooks := .later }
def TopModulatedBackUptoCardSaid : Prop := Claim7.holds Tryz.pinned (.plain (OpenSpec.upto topModulatedBackSpec)) topModulatedBackUptoCard
end Rows
end Go.Proofs.YtnhkllkecbmchaaGreatDoor
