/-
  DERIVED. GIVEN WITH THE SEED: THE CARDS: each row of YtehaoafnobnneaaDoorRows.lean that lists a variable, with what it lists TIED to the program's text (the seventh form; the later family's looks); each row that meets fmt, with fmt's text TOLD by the authors' own Lean function (tested against real Go, not proved from fmt's source: count such statements apart). THE CARD IS WHAT COUNTS. Prove the row's statement (the work); the ties are given (YtehaoafnobnneaaDoorTie.lean); close each card by the builder's one call (the guide's Derived/Test/ToyasCard.lean, 'card_holds'). Laid BY PROGRAM, IN A SANDBOX (cutbox-door.mjs). By AI agents, Wed Nov 11 2026. No macro, syntax, notation, axiom, sorry.
-/
import Derived.Test.YtehaoafnobnneaaDoorRows
import GoSem.ClaimSeven
namespace Go.Proofs.YtehaoafnobnneaaDoor
namespace Rows

/-- THE TIED CARD OF 'echelonlaw03.DiskNames'. -/
def diskNamesCard : Claim7 := { stood := { row := diskNamesRow, standIns := [], harness := (true, "4f2e4a11e4df1918cfb247ac24b062a334fc5c8de444e7d280bb37cd5cdfb217"), looks := false }, kinds := [], alts := [], laidByText := true, laidKinds := [.data, .pinned], laidTests := true, laidLooks := .later }
def DiskNamesCardSaid : Prop := Claim7.holds Tryd.pinned (.plain (OpenSpec.ofChange diskNamesSpec)) diskNamesCard

/-- THE TIED CARD OF 'echelonlaw03.DiskTwins'. -/
def diskTwinsCard : Claim7 := { stood := { row := diskTwinsRow, standIns := [], harness := (true, "4f2e4a11e4df1918cfb247ac24b062a334fc5c8de444e7d280bb37cd5cdfb217"), looks := false }, kinds := [], alts := [], laidByText := true, laidKinds := [.data, .pinned], laidTests := true, laidLooks := .later }
def DiskTwinsCardSaid : Prop := Claim7.holds Tryd.pinned (.plain (OpenSpec.ofChange diskTwinsSpec)) diskTwinsCard

/-- THE TIED CARD OF 'echelonlaw03.DiskFull'. -/
def diskFullCard : Claim7 := { stood := { row := diskFullRow, standIns := [], harness := (true, "4f2e4a11e4df1918cfb247ac24b062a334fc5c8de444e7d280bb37cd5cdfb217"), looks := false }, kinds := [], alts := [], laidByText := true, laidKinds := [.data, .pinned], laidTests := true, laidLooks := .later }
def DiskFullCardSaid : Prop := Claim7.holds Tryd.pinned (.plain (OpenSpec.ofChange diskFullSpec)) diskFullCard

/-- THE TIED CARD OF 'echelonlaw03.DiskStops'. -/
def diskStopsCard : Claim7 := { stood := { row := diskStopsRow, standIns := [], harness := (true, "4f2e4a11e4df1918cfb247ac24b062a334fc5c8de444e7d280bb37cd5cdfb217"), looks := false }, kinds := [], alts := [], laidByText := true, laidKinds := [.data, .pinned], laidTests := true, laidLooks := .later }
def DiskStopsCardSaid : Prop := Claim7.holds Tryd.pinned (.plain (OpenSpec.ofChange diskStopsSpec)) diskStopsCard

/-- THE TIED CARD OF 'echelonlaw03.DiskActs'. -/
def diskActsCard : Claim7 := { stood := { row := diskActsRow, standIns := [], harness := (true, "4f2e4a11e4df1918cfb247ac24b062a334fc5c8de444e7d280bb37cd5cdfb217"), looks := false }, kinds := [], alts := [], laidByText := true, laidKinds := [.data, .pinned], laidTests := true, laidLooks := .later }
def DiskActsCardSaid : Prop := Claim7.holds Tryd.pinned (.plain (OpenSpec.ofChange diskActsSpec)) diskActsCard

/-- THE TIED CARD OF 'echelonlaw03.DiskKeeps'. -/
def diskKeepsCard : Claim7 := { stood := { row := diskKeepsRow, standIns := [], harness := (true, "4f2e4a11e4df1918cfb247ac24b062a334fc5c8de444e7d280bb37cd5cdfb217"), looks := false }, kinds := [], alts := [], laidByText := true, laidKinds := [.data, .pinned], laidTests := true, laidLooks := .later }
def DiskKeepsCardSaid : Prop := Claim7.holds Tryd.pinned (.plain (OpenSpec.ofChange diskKeepsSpec)) diskKeepsCard

/-- THE SECOND FORM's CARD OF 'echelonlaw03.DiskNames'. -/
def diskNamesUptoCard : Claim7 := { stood := { row := diskNamesUptoRow, standIns := [], harness := (true, "4f2e4a11e4df1918cfb247ac24b062a334fc5c8de444e7d280bb37cd5cdfb217"), looks := false }, kinds := [], alts := [], laidByText := true, laidKinds := [.data, .pinned], laidTests := true, laidLooks := .later }
def DiskNamesUptoCardSaid : Prop := Claim7.holds Tryd.pinned (.plain (OpenSpec.upto diskNamesSpec)) diskNamesUptoCard

/-- THE SECOND FORM's CARD OF 'echelonlaw03.DiskTwins'. -/
def diskTwinsUptoCard : Claim7 := { stood := { row := diskTwinsUptoRow, standIns := [], harness := (true, "4f2e4a11e4df1918cfb247ac24b062a334fc5c8de444e7d280bb37cd5cdfb217"), looks := false }, kinds := [], alts := [], laidByText := true, laidKinds := [.data, .pinned], laidTests := true, laidLooks := .later }
def DiskTwinsUptoCardSaid : Prop := Claim7.holds Tryd.pinned (.plain (OpenSpec.upto diskTwinsSpec)) diskTwinsUptoCard

/-- THE SECOND FORM's CARD OF 'echelonlaw03.DiskFull'. -/
def diskFullUptoCard : Claim7 := { stood := { row := diskFullUptoRow, standIns := [], harness := (true, "4f2e4a11e4df1918cfb247ac24b062a334fc5c8de444e7d280bb37cd5cdfb217"), looks := false }, kinds := [], alts := [], laidByText := true, laidKinds := [.data, .pinned], laidTests := true, laidLooks := .later }
def DiskFullUptoCardSaid : Prop := Claim7.holds Tryd.pinned (.plain (OpenSpec.upto diskFullSpec)) diskFullUptoCard

/-- THE SECOND FORM's CARD OF 'echelonlaw03.DiskStops'. -/
def diskStopsUptoCard : Claim7 := { stood := { row := diskStopsUptoRow, standIns := [], harness := (true, "4f2e4a11e4df1918cfb247ac24b062a334fc5c8de444e7d280bb37cd5cdfb217"), looks := false }, kinds := [], alts := [], laidByText := true, laidKinds := [.data, .pinned], laidTests := true, laidLooks := .later }
def DiskStopsUptoCardSaid : Prop := Claim7.holds Tryd.pinned (.plain (OpenSpec.upto diskStopsSpec)) diskStopsUptoCard

/-- THE SECOND FORM's CARD OF 'echelonlaw03.DiskActs'. -/
def diskActsUptoCard : Claim7 := { stood := { row := diskActsUptoRow, standIns := [], harness := (true, "4f2e4a11e4df1918cfb247ac24b062a334fc5c8de444e7d280bb37cd5cdfb217"), looks := false }, kinds := [], alts := [], laidByText := true, laidKinds := [.data, .pinned], laidTests := true, laidLooks := .later }
def DiskActsUptoCardSaid : Prop := Claim7.holds Tryd.pinned (.plain (OpenSpec.upto diskActsSpec)) diskActsUptoCard

/-- THE SECOND FORM's CARD OF 'echelonlaw03.DiskKeeps'. -/
def diskKeepsUptoCard : Claim7 := { stood := { row := diskKeepsUptoRow, standIns := [], harness := (true, "4f2e4a11e4df1918cfb247ac24b062a334fc5c8de444e7d280bb37cd5cdfb217"), looks := false }, kinds := [], alts := [], laidByText := true, laidKinds := [.data, .pinned], laidTests := true, laidLooks := .later }
def DiskKeepsUptoCardSaid : Prop := Claim7.holds Tryd.pinned (.plain (OpenSpec.upto diskKeepsSpec)) diskKeepsUptoCard
end Rows
end Go.Proofs.YtehaoafnobnneaaDoor
