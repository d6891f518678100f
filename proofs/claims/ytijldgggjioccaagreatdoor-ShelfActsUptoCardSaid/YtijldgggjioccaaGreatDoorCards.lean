/-
  DERIVED. GIVEN WITH THE SEED: THE CARDS: each row of YtijldgggjioccaaGreatDoorRows.lean that lists a variable, with what it lists TIED to the program's text (the seventh form; the later family's looks); each row that meets fmt, with fmt's text TOLD by the authors' own Lean function (tested against real Go, not proved from fmt's source: count such statements apart). THE CARD IS WHAT COUNTS. Prove the row's statement (the work); the ties are given (YtijldgggjioccaaGreatDoorTie.lean); close each card by the builder's one call (the guide's Derived/Test/ToyasCard.lean, 'card_holds'). Laid BY PROGRAM, IN A SANDBOX (cutbox-door.mjs). By AI agents, Wed Nov 11 2026. No macro, syntax, notation, axiom, sorry.
-/
import Derived.Test.YtijldgggjioccaaGreatDoorRows
import GoSem.ClaimSeven
namespace Go.Proofs.YtijldgggjioccaaGreatDoor
namespace Rows

/-- THE TIED CARD OF 'echelonlaw06.ShelfParses'. -/
def shelfParsesCard : Claim7 := { stood := { row := shelfParsesRow, standIns := [], harness := (true, "983c3602b494791859c4d496bd53b28a9502d3df16336e811413cc5ddef28ce4"), looks := true }, kinds := [], alts := [], laidByText := true, laidKinds := [.data, .data, .data, .data, .sentinel, .sentinel, .pinned], laidTests := true, laidLooks := .later }
def ShelfParsesCardSaid : Prop := Claim7.holds Tryz.pinned (.plain (OpenSpec.ofChange shelfParsesSpec)) shelfParsesCard

/-- THE TIED CARD OF 'echelonlaw06.ShelfKeeps'. -/
def shelfKeepsCard : Claim7 := { stood := { row := shelfKeepsRow, standIns := [], harness := (true, "983c3602b494791859c4d496bd53b28a9502d3df16336e811413cc5ddef28ce4"), looks := true }, kinds := [], alts := [], laidByText := true, laidKinds := [.data, .data, .data, .data, .sentinel, .sentinel, .pinned], laidTests := true, laidLooks := .later }
def ShelfKeepsCardSaid : Prop := Claim7.holds Tryz.pinned (.plain (OpenSpec.ofChange shelfKeepsSpec)) shelfKeepsCard

/-- THE TIED CARD OF 'echelonlaw06.ShelfNewest'. -/
def shelfNewestCard : Claim7 := { stood := { row := shelfNewestRow, standIns := [], harness := (true, "983c3602b494791859c4d496bd53b28a9502d3df16336e811413cc5ddef28ce4"), looks := true }, kinds := [], alts := [], laidByText := true, laidKinds := [.data, .data, .data, .data, .sentinel, .sentinel, .pinned], laidTests := true, laidLooks := .later }
def ShelfNewestCardSaid : Prop := Claim7.holds Tryz.pinned (.plain (OpenSpec.ofChange shelfNewestSpec)) shelfNewestCard

/-- THE TIED CARD OF 'echelonlaw06.ShelfActs'. -/
def shelfActsCard : Claim7 := { stood := { row := shelfActsRow, standIns := [], harness := (true, "983c3602b494791859c4d496bd53b28a9502d3df16336e811413cc5ddef28ce4"), looks := true }, kinds := [], alts := [], laidByText := true, laidKinds := [.data, .data, .data, .data, .sentinel, .sentinel, .pinned], laidTests := true, laidLooks := .later }
def ShelfActsCardSaid : Prop := Claim7.holds Tryz.pinned (.plain (OpenSpec.ofChange shelfActsSpec)) shelfActsCard

/-- THE TIED CARD OF 'echelonlaw05.SegmentSizes'. -/
def segmentSizesCard : Claim7 := { stood := { row := segmentSizesRow, standIns := [], harness := (true, "983c3602b494791859c4d496bd53b28a9502d3df16336e811413cc5ddef28ce4"), looks := true }, kinds := [], alts := [], laidByText := true, laidKinds := [.data, .data, .data, .data, .sentinel, .sentinel, .pinned], laidTests := true, laidLooks := .later }
def SegmentSizesCardSaid : Prop := Claim7.holds Tryz.pinned (.plain (OpenSpec.ofChange segmentSizesSpec)) segmentSizesCard

/-- THE TIED CARD OF 'echelonlaw05.SegmentDrops'. -/
def segmentDropsCard : Claim7 := { stood := { row := segmentDropsRow, standIns := [], harness := (true, "983c3602b494791859c4d496bd53b28a9502d3df16336e811413cc5ddef28ce4"), looks := true }, kinds := [], alts := [], laidByText := true, laidKinds := [.data, .data, .data, .data, .sentinel, .sentinel, .pinned], laidTests := true, laidLooks := .later }
def SegmentDropsCardSaid : Prop := Claim7.holds Tryz.pinned (.plain (OpenSpec.ofChange segmentDropsSpec)) segmentDropsCard

/-- THE TIED CARD OF 'echelonlaw11.VaultPlaces'. -/
def vaultPlacesCard : Claim7 := { stood := { row := vaultPlacesRow, standIns := [], harness := (true, "983c3602b494791859c4d496bd53b28a9502d3df16336e811413cc5ddef28ce4"), looks := true }, kinds := [], alts := [], laidByText := true, laidKinds := [.data, .data, .data, .data, .sentinel, .sentinel, .pinned], laidTests := true, laidLooks := .later }
def VaultPlacesCardSaid : Prop := Claim7.holds Tryz.pinned (.plain (OpenSpec.ofChange vaultPlacesSpec)) vaultPlacesCard

/-- THE TIED CARD OF 'echelonlaw11.VaultRecovers'. -/
def vaultRecoversCard : Claim7 := { stood := { row := vaultRecoversRow, standIns := [], harness := (true, "983c3602b494791859c4d496bd53b28a9502d3df16336e811413cc5ddef28ce4"), looks := true }, kinds := [], alts := [], laidByText := true, laidKinds := [.data, .data, .data, .data, .sentinel, .sentinel, .pinned], laidTests := true, laidLooks := .later }
def VaultRecoversCardSaid : Prop := Claim7.holds Tryz.pinned (.plain (OpenSpec.ofChange vaultRecoversSpec)) vaultRecoversCard

/-- THE TIED CARD OF 'echelonlaw11.VaultActs'. -/
def vaultActsCard : Claim7 := { stood := { row := vaultActsRow, standIns := [], harness := (true, "983c3602b494791859c4d496bd53b28a9502d3df16336e811413cc5ddef28ce4"), looks := true }, kinds := [], alts := [], laidByText := true, laidKinds := [.data, .data, .data, .data, .sentinel, .sentinel, .pinned], laidTests := true, laidLooks := .later }
def VaultActsCardSaid : Prop := Claim7.holds Tryz.pinned (.plain (OpenSpec.ofChange vaultActsSpec)) vaultActsCard

/-- THE SECOND FORM's CARD OF 'echelonlaw06.ShelfParses'. -/
def shelfParsesUptoCard : Claim7 := { stood := { row := shelfParsesUptoRow, standIns := [], harness := (true, "983c3602b494791859c4d496bd53b28a9502d3df16336e811413cc5ddef28ce4"), looks := true }, kinds := [], alts := [], laidByText := true, laidKinds := [.data, .data, .data, .data, .sentinel, .sentinel, .pinned], laidTests := true, laidLooks := .later }
def ShelfParsesUptoCardSaid : Prop := Claim7.holds Tryz.pinned (.plain (OpenSpec.upto shelfParsesSpec)) shelfParsesUptoCard

/-- THE SECOND FORM's CARD OF 'echelonlaw06.ShelfKeeps'. -/
def shelfKeepsUptoCard : Claim7 := { stood := { row := shelfKeepsUptoRow, standIns := [], harness := (true, "983c3602b494791859c4d496bd53b28a9502d3df16336e811413cc5ddef28ce4"), looks := true }, kinds := [], alts := [], laidByText := true, laidKinds := [.data, .data, .data, .data, .sentinel, .sentinel, .pinned], laidTests := true, laidLooks := .later }
def ShelfKeepsUptoCardSaid : Prop := Claim7.holds Tryz.pinned (.plain (OpenSpec.upto shelfKeepsSpec)) shelfKeepsUptoCard

/-- THE SECOND FORM's CARD OF 'echelonlaw06.ShelfNewest'. -/
def shelfNewestUptoCard : Claim7 := { stood := { row := shelfNewestUptoRow, standIns := [], harness := (true, "983c3602b494791859c4d496bd53b28a9502d3df16336e811413cc5ddef28ce4"), looks := true }, kinds := [], alts := [], laidByText := true, laidKinds := [.data, .data, .data, .data, .sentinel, .sentinel, .pinned], laidTests := true, laidLooks := .later }
def ShelfNewestUptoCardSaid : Prop := Claim7.holds Tryz.pinned (.plain (OpenSpec.upto shelfNewestSpec)) shelfNewestUptoCard

/-- THE SECOND FORM's CARD OF 'echelonlaw06.ShelfActs'. -/
def shelfActsUptoCard : Claim7 := { stood := { row := shelfActsUptoRow, standIns := [], harness := (true, "983c3602b494791859c4d496bd53b28a9502d3df16336e811413cc5ddef28ce4"), looks := true }, kinds := [], alts := [], laidByText := true, laidKinds := [.data, .data, .data, .data, .sentinel, .sentinel, .pinned], laidTests := true, laidLooks := .later }
def ShelfActsUptoCardSaid : Prop := Claim7.holds Tryz.pinned (.plain (OpenSpec.upto shelfActsSpec)) shelfActsUptoCard

/-- THE SECOND FORM's CARD OF 'echelonlaw05.SegmentSizes'. -/
def segmentSizesUptoCard : Claim7 := { stood := { row := segmentSizesUptoRow, standIns := [], harness := (true, "983c3602b494791859c4d496bd53b28a9502d3df16336e811413cc5ddef28ce4"), looks := true }, kinds := [], alts := [], laidByText := true, laidKinds := [.data, .data, .data, .data, .sentinel, .sentinel, .pinned], laidTests := true, laidLooks := .later }
def SegmentSizesUptoCardSaid : Prop := Claim7.holds Tryz.pinned (.plain (OpenSpec.upto segmentSizesSpec)) segmentSizesUptoCard

/-- THE SECOND FORM's CARD OF 'echelonlaw05.SegmentDrops'. -/
def segmentDropsUptoCard : Claim7 := { stood := { row := segmentDropsUptoRow, standIns := [], harness := (true, "983c3602b494791859c4d496bd53b28a9502d3df16336e811413cc5ddef28ce4"), looks := true }, kinds := [], alts := [], laidByText := true, laidKinds := [.data, .data, .data, .data, .sentinel, .sentinel, .pinned], laidTests := true, laidLooks := .later }
def SegmentDropsUptoCardSaid : Prop := Claim7.holds Tryz.pinned (.plain (OpenSpec.upto segmentDropsSpec)) segmentDropsUptoCard

/-- THE SECOND FORM's CARD OF 'echelonlaw11.VaultPlaces'. -/
def vaultPlacesUptoCard : Claim7 := { stood := { row := vaultPlacesUptoRow, standIns := [], harness := (true, "983c3602b494791859c4d496bd53b28a9502d3df16336e811413cc5ddef28ce4"), looks := true }, kinds := [], alts := [], laidByText := true, laidKinds := [.data, .data, .data, .data, .sentinel, .sentinel, .pinned], laidTests := true, laidLooks := .later }
def VaultPlacesUptoCardSaid : Prop := Claim7.holds Tryz.pinned (.plain (OpenSpec.upto vaultPlacesSpec)) vaultPlacesUptoCard

/-- THE SECOND FORM's CARD OF 'echelonlaw11.VaultRecovers'. -/
def vaultRecoversUptoCard : Claim7 := { stood := { row := vaultRecoversUptoRow, standIns := [], harness := (true, "983c3602b494791859c4d496bd53b28a9502d3df16336e811413cc5ddef28ce4"), looks := true }, kinds := [], alts := [], laidByText := true, laidKinds := [.data, .data, .data, .data, .sentinel, .sentinel, .pinned], laidTests := true, laidLooks := .later }
def VaultRecoversUptoCardSaid : Prop := Claim7.holds Tryz.pinned (.plain (OpenSpec.upto vaultRecoversSpec)) vaultRecoversUptoCard

/-- THE SECOND FORM's CARD OF 'echelonlaw11.VaultActs'. -/
def vaultActsUptoCard : Claim7 := { stood := { row := vaultActsUptoRow, standIns := [], harness := (true, "983c3602b494791859c4d496bd53b28a9502d3df16336e811413cc5ddef28ce4"), looks := true }, kinds := [], alts := [], laidByText := true, laidKinds := [.data, .data, .data, .data, .sentinel, .sentinel, .pinned], laidTests := true, laidLooks := .later }
def VaultActsUptoCardSaid : Prop := Claim7.holds Tryz.pinned (.plain (OpenSpec.upto vaultActsSpec)) vaultActsUptoCard
end Rows
end Go.Proofs.YtijldgggjioccaaGreatDoor
